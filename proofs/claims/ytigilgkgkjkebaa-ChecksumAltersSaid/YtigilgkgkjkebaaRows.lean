/-
  No cell of these rows narrows 'for every input' (looked for: loops, veiled, ifaces, maps, wideKeys, modest, calm, conditions, laid).
  DERIVED. THE GIVEN ROWS OF THIS SEAT. 10 by the template 'for every input the law returns true; each argument reads behind the call as it read before'; 0 by the template 'total and deterministic' (their statements: YtigilgkgkjkebaaTotals.lean).
  GIVEN WITH THE SEED: the statements are not yours to turn. If you find one false, say at which input.
  Laid BY PROGRAM, IN A SANDBOX (cutbox-rows.mjs): the forced cells as the released guide's own fill.sh prints them over the translation 09c04a9ad810fef6… (all of the seat's roots in one cut). By AI agents, Wed Nov 11 2026. No macro, syntax, notation, axiom, sorry.
-/
import Derived.Test.YtigilgkgkjkebaaChecked
import GoSem.Claim
import GoSem.ClaimJoined
import GoSem.ClaimMapViews
import Derived.JoinedTies
import Derived.KernelRfl
namespace Go.Proofs.Ytigilgkgkjkebaa
/- THE CELL 'sum', in the pinned program and in every row, IS THE sha256 OF THE DUMP (.gsa) THAT YtigilgkgkjkebaaProg.lean LOADS. Nothing in Lean hashes anything: it is a label: what it is worth is what the hold of that sum in a sandbox is worth. -/
noncomputable def Try.pinned : Pinned := { name := "ytigilgkgkjkebaa", sum := "09c04a9ad810fef6e9c42bee25a088c11237bf3995fdb8b59db3739e37acff38", checked := Try.checked }
namespace Rows
def none {H : Type} : Left H := { results := [], args := [] }

/-- 'sleuthlaw04.ChecksumWords': WHATEVER THE INPUT: true; the input reads as it did. -/
def checksumWordsSpec : ChangeSpec := { name := "checksumWords", fn := fun _ => fun
  | [d1, d2] => { results := [.lit (.bool true)], args := [d1, d2] }
  | _ => none }
def checksumWordsRow : OpenClaim := { program := "ytigilgkgkjkebaa", sum := "09c04a9ad810fef6e9c42bee25a088c11237bf3995fdb8b59db3739e37acff38", func := "sleuth/sleuthlaw04.ChecksumWords", spec := "checksumWords", apart := false }
def ChecksumWordsSaid : Prop := checksumWordsRow.holds Try.pinned (OpenSpec.ofChange checksumWordsSpec)

/-- ITS FALSE NEIGHBOUR: 'it returns false'. Refute it at one input. -/
def checksumWordsWrong : ChangeSpec := { name := "checksumWords", fn := fun _ => fun
  | [d1, d2] => { results := [.lit (.bool false)], args := [d1, d2] }
  | _ => none }
def ChecksumWordsWrongFalsely : Prop := checksumWordsRow.holds Try.pinned (OpenSpec.ofChange checksumWordsWrong)

/-- 'sleuthlaw04.ChecksumSums': WHATEVER THE INPUT: true; the input reads as it did. -/
def checksumSumsSpec : ChangeSpec := { name := "checksumSums", fn := fun _ => fun
  | [d] => { results := [.lit (.bool true)], args := [d] }
  | _ => none }
def checksumSumsRow : OpenClaim := { program := "ytigilgkgkjkebaa", sum := "09c04a9ad810fef6e9c42bee25a088c11237bf3995fdb8b59db3739e37acff38", func := "sleuth/sleuthlaw04.ChecksumSums", spec := "checksumSums", apart := false }
def ChecksumSumsSaid : Prop := checksumSumsRow.holds Try.pinned (OpenSpec.ofChange checksumSumsSpec)

/-- ITS FALSE NEIGHBOUR: 'it returns false'. Refute it at one input. -/
def checksumSumsWrong : ChangeSpec := { name := "checksumSums", fn := fun _ => fun
  | [d] => { results := [.lit (.bool false)], args := [d] }
  | _ => none }
def ChecksumSumsWrongFalsely : Prop := checksumSumsRow.holds Try.pinned (OpenSpec.ofChange checksumSumsWrong)

/-- 'sleuthlaw04.ChecksumExtends': WHATEVER THE INPUT: true; the input reads as it did. -/
def checksumExtendsSpec : ChangeSpec := { name := "checksumExtends", fn := fun _ => fun
  | [d1, d2, d3] => { results := [.lit (.bool true)], args := [d1, d2, d3] }
  | _ => none }
def checksumExtendsRow : OpenClaim := { program := "ytigilgkgkjkebaa", sum := "09c04a9ad810fef6e9c42bee25a088c11237bf3995fdb8b59db3739e37acff38", func := "sleuth/sleuthlaw04.ChecksumExtends", spec := "checksumExtends", apart := false }
def ChecksumExtendsSaid : Prop := checksumExtendsRow.holds Try.pinned (OpenSpec.ofChange checksumExtendsSpec)

/-- ITS FALSE NEIGHBOUR: 'it returns false'. Refute it at one input. -/
def checksumExtendsWrong : ChangeSpec := { name := "checksumExtends", fn := fun _ => fun
  | [d1, d2, d3] => { results := [.lit (.bool false)], args := [d1, d2, d3] }
  | _ => none }
def ChecksumExtendsWrongFalsely : Prop := checksumExtendsRow.holds Try.pinned (OpenSpec.ofChange checksumExtendsWrong)

/-- 'sleuthlaw04.ChecksumCombines': WHATEVER THE INPUT: true; the input reads as it did. -/
def checksumCombinesSpec : ChangeSpec := { name := "checksumCombines", fn := fun _ => fun
  | [d1, d2, d3] => { results := [.lit (.bool true)], args := [d1, d2, d3] }
  | _ => none }
def checksumCombinesRow : OpenClaim := { program := "ytigilgkgkjkebaa", sum := "09c04a9ad810fef6e9c42bee25a088c11237bf3995fdb8b59db3739e37acff38", func := "sleuth/sleuthlaw04.ChecksumCombines", spec := "checksumCombines", apart := false }
def ChecksumCombinesSaid : Prop := checksumCombinesRow.holds Try.pinned (OpenSpec.ofChange checksumCombinesSpec)

/-- ITS FALSE NEIGHBOUR: 'it returns false'. Refute it at one input. -/
def checksumCombinesWrong : ChangeSpec := { name := "checksumCombines", fn := fun _ => fun
  | [d1, d2, d3] => { results := [.lit (.bool false)], args := [d1, d2, d3] }
  | _ => none }
def ChecksumCombinesWrongFalsely : Prop := checksumCombinesRow.holds Try.pinned (OpenSpec.ofChange checksumCombinesWrong)

/-- 'sleuthlaw04.ChecksumAssociates': WHATEVER THE INPUT: true; the input reads as it did. -/
def checksumAssociatesSpec : ChangeSpec := { name := "checksumAssociates", fn := fun _ => fun
  | [d1, d2, d3] => { results := [.lit (.bool true)], args := [d1, d2, d3] }
  | _ => none }
def checksumAssociatesRow : OpenClaim := { program := "ytigilgkgkjkebaa", sum := "09c04a9ad810fef6e9c42bee25a088c11237bf3995fdb8b59db3739e37acff38", func := "sleuth/sleuthlaw04.ChecksumAssociates", spec := "checksumAssociates", apart := false }
def ChecksumAssociatesSaid : Prop := checksumAssociatesRow.holds Try.pinned (OpenSpec.ofChange checksumAssociatesSpec)

/-- ITS FALSE NEIGHBOUR: 'it returns false'. Refute it at one input. -/
def checksumAssociatesWrong : ChangeSpec := { name := "checksumAssociates", fn := fun _ => fun
  | [d1, d2, d3] => { results := [.lit (.bool false)], args := [d1, d2, d3] }
  | _ => none }
def ChecksumAssociatesWrongFalsely : Prop := checksumAssociatesRow.holds Try.pinned (OpenSpec.ofChange checksumAssociatesWrong)

/-- 'sleuthlaw04.ChecksumDetects': WHATEVER THE INPUT: true; the input reads as it did. -/
def checksumDetectsSpec : ChangeSpec := { name := "checksumDetects", fn := fun _ => fun
  | [d1, d2, d3] => { results := [.lit (.bool true)], args := [d1, d2, d3] }
  | _ => none }
def checksumDetectsRow : OpenClaim := { program := "ytigilgkgkjkebaa", sum := "09c04a9ad810fef6e9c42bee25a088c11237bf3995fdb8b59db3739e37acff38", func := "sleuth/sleuthlaw04.ChecksumDetects", spec := "checksumDetects", apart := false }
def ChecksumDetectsSaid : Prop := checksumDetectsRow.holds Try.pinned (OpenSpec.ofChange checksumDetectsSpec)

/-- ITS FALSE NEIGHBOUR: 'it returns false'. Refute it at one input. -/
def checksumDetectsWrong : ChangeSpec := { name := "checksumDetects", fn := fun _ => fun
  | [d1, d2, d3] => { results := [.lit (.bool false)], args := [d1, d2, d3] }
  | _ => none }
def ChecksumDetectsWrongFalsely : Prop := checksumDetectsRow.holds Try.pinned (OpenSpec.ofChange checksumDetectsWrong)

/-- 'sleuthlaw04.ChecksumMixes': WHATEVER THE INPUT: true; the input reads as it did. -/
def checksumMixesSpec : ChangeSpec := { name := "checksumMixes", fn := fun _ => fun
  | [d1, d2, d3] => { results := [.lit (.bool true)], args := [d1, d2, d3] }
  | _ => none }
def checksumMixesRow : OpenClaim := { program := "ytigilgkgkjkebaa", sum := "09c04a9ad810fef6e9c42bee25a088c11237bf3995fdb8b59db3739e37acff38", func := "sleuth/sleuthlaw04.ChecksumMixes", spec := "checksumMixes", apart := false }
def ChecksumMixesSaid : Prop := checksumMixesRow.holds Try.pinned (OpenSpec.ofChange checksumMixesSpec)

/-- ITS FALSE NEIGHBOUR: 'it returns false'. Refute it at one input. -/
def checksumMixesWrong : ChangeSpec := { name := "checksumMixes", fn := fun _ => fun
  | [d1, d2, d3] => { results := [.lit (.bool false)], args := [d1, d2, d3] }
  | _ => none }
def ChecksumMixesWrongFalsely : Prop := checksumMixesRow.holds Try.pinned (OpenSpec.ofChange checksumMixesWrong)

/-- 'sleuthlaw04.ChecksumTexts': WHATEVER THE INPUT: true; the input reads as it did. -/
def checksumTextsSpec : ChangeSpec := { name := "checksumTexts", fn := fun _ => fun
  | [d1, d2] => { results := [.lit (.bool true)], args := [d1, d2] }
  | _ => none }
def checksumTextsRow : OpenClaim := { program := "ytigilgkgkjkebaa", sum := "09c04a9ad810fef6e9c42bee25a088c11237bf3995fdb8b59db3739e37acff38", func := "sleuth/sleuthlaw04.ChecksumTexts", spec := "checksumTexts", apart := false }
def ChecksumTextsSaid : Prop := checksumTextsRow.holds Try.pinned (OpenSpec.ofChange checksumTextsSpec)

/-- ITS FALSE NEIGHBOUR: 'it returns false'. Refute it at one input. -/
def checksumTextsWrong : ChangeSpec := { name := "checksumTexts", fn := fun _ => fun
  | [d1, d2] => { results := [.lit (.bool false)], args := [d1, d2] }
  | _ => none }
def ChecksumTextsWrongFalsely : Prop := checksumTextsRow.holds Try.pinned (OpenSpec.ofChange checksumTextsWrong)

/-- 'sleuthlaw04.ChecksumChains': WHATEVER THE INPUT: true; the input reads as it did. -/
def checksumChainsSpec : ChangeSpec := { name := "checksumChains", fn := fun _ => fun
  | [d1, d2, d3] => { results := [.lit (.bool true)], args := [d1, d2, d3] }
  | _ => none }
def checksumChainsRow : OpenClaim := { program := "ytigilgkgkjkebaa", sum := "09c04a9ad810fef6e9c42bee25a088c11237bf3995fdb8b59db3739e37acff38", func := "sleuth/sleuthlaw04.ChecksumChains", spec := "checksumChains", apart := false }
def ChecksumChainsSaid : Prop := checksumChainsRow.holds Try.pinned (OpenSpec.ofChange checksumChainsSpec)

/-- ITS FALSE NEIGHBOUR: 'it returns false'. Refute it at one input. -/
def checksumChainsWrong : ChangeSpec := { name := "checksumChains", fn := fun _ => fun
  | [d1, d2, d3] => { results := [.lit (.bool false)], args := [d1, d2, d3] }
  | _ => none }
def ChecksumChainsWrongFalsely : Prop := checksumChainsRow.holds Try.pinned (OpenSpec.ofChange checksumChainsWrong)

/-- 'sleuthlaw04.ChecksumAlters': WHATEVER THE INPUT: true; the input reads as it did. -/
def checksumAltersSpec : ChangeSpec := { name := "checksumAlters", fn := fun _ => fun
  | [d1, d2, d3] => { results := [.lit (.bool true)], args := [d1, d2, d3] }
  | _ => none }
def checksumAltersRow : OpenClaim := { program := "ytigilgkgkjkebaa", sum := "09c04a9ad810fef6e9c42bee25a088c11237bf3995fdb8b59db3739e37acff38", func := "sleuth/sleuthlaw04.ChecksumAlters", spec := "checksumAlters", apart := false }
def ChecksumAltersSaid : Prop := checksumAltersRow.holds Try.pinned (OpenSpec.ofChange checksumAltersSpec)

/-- ITS FALSE NEIGHBOUR: 'it returns false'. Refute it at one input. -/
def checksumAltersWrong : ChangeSpec := { name := "checksumAlters", fn := fun _ => fun
  | [d1, d2, d3] => { results := [.lit (.bool false)], args := [d1, d2, d3] }
  | _ => none }
def ChecksumAltersWrongFalsely : Prop := checksumAltersRow.holds Try.pinned (OpenSpec.ofChange checksumAltersWrong)

/- THE SECOND FORM. 'bulk': how many values and letters a reading holds, each counted each time it is reached (what is shared counts as often as it is met; a slice's spare places count too). A statement '..UptoSaid' is the law's where the arguments, and the package variables that the reading takes, are together of bulk at most 1048576: NARROWER than '..Said'. Prove '..Said' where nothing that the law and all that it calls make is longer than what came in: it says more and counts as full. Else prove '..UptoSaid'. A law counts once. -/
mutual
def uptoBulk {H : Type} : DataW H → Nat
  | .lit (.string bytes) => bytes.length + 1
  | .lit _ => 1
  | .nil => 1
  | .ptr d => uptoBulk d + 1
  | .slice elems spare => uptoBulkAll elems + uptoBulkAll spare + 1
  | .agg parts => uptoBulkAll parts + 1
  | .iface _ d => uptoBulk d + 1
  | .map entries => uptoBulkEntries entries + 1
  | .held _ => 1
def uptoBulkAll {H : Type} : List (DataW H) → Nat
  | [] => 0
  | d :: r => uptoBulk d + uptoBulkAll r
def uptoBulkEntries {H : Type} : List (Lit × DataW H) → Nat
  | [] => 0
  | x :: r => uptoBulkEntry x + uptoBulkEntries r
def uptoBulkEntry {H : Type} : Lit × DataW H → Nat
  | (.string bytes, d) => bytes.length + uptoBulk d + 1
  | (_, d) => uptoBulk d + 1
 end
def uptoSmall : (H : Type) → List (DataW H) → Bool := fun _ ds => decide (uptoBulkAll ds ≤ 1048576)
def OpenSpec.upto (s : _root_.Go.ChangeSpec) : _root_.Go.OpenSpec := { _root_.Go.OpenSpec.ofChange s with cond := some uptoSmall }

/-- 'sleuthlaw04.ChecksumWords', WHERE WHAT IT READS IS OF BULK AT MOST 1048576: true; the input reads as it did. -/
def checksumWordsUptoRow : OpenClaim := { program := "ytigilgkgkjkebaa", sum := "09c04a9ad810fef6e9c42bee25a088c11237bf3995fdb8b59db3739e37acff38", func := "sleuth/sleuthlaw04.ChecksumWords", spec := "checksumWords", apart := false, narrowed := true }
def ChecksumWordsUptoSaid : Prop := checksumWordsUptoRow.holds Try.pinned (OpenSpec.upto checksumWordsSpec)

/-- 'sleuthlaw04.ChecksumSums', WHERE WHAT IT READS IS OF BULK AT MOST 1048576: true; the input reads as it did. -/
def checksumSumsUptoRow : OpenClaim := { program := "ytigilgkgkjkebaa", sum := "09c04a9ad810fef6e9c42bee25a088c11237bf3995fdb8b59db3739e37acff38", func := "sleuth/sleuthlaw04.ChecksumSums", spec := "checksumSums", apart := false, narrowed := true }
def ChecksumSumsUptoSaid : Prop := checksumSumsUptoRow.holds Try.pinned (OpenSpec.upto checksumSumsSpec)

/-- 'sleuthlaw04.ChecksumExtends', WHERE WHAT IT READS IS OF BULK AT MOST 1048576: true; the input reads as it did. -/
def checksumExtendsUptoRow : OpenClaim := { program := "ytigilgkgkjkebaa", sum := "09c04a9ad810fef6e9c42bee25a088c11237bf3995fdb8b59db3739e37acff38", func := "sleuth/sleuthlaw04.ChecksumExtends", spec := "checksumExtends", apart := false, narrowed := true }
def ChecksumExtendsUptoSaid : Prop := checksumExtendsUptoRow.holds Try.pinned (OpenSpec.upto checksumExtendsSpec)

/-- 'sleuthlaw04.ChecksumCombines', WHERE WHAT IT READS IS OF BULK AT MOST 1048576: true; the input reads as it did. -/
def checksumCombinesUptoRow : OpenClaim := { program := "ytigilgkgkjkebaa", sum := "09c04a9ad810fef6e9c42bee25a088c11237bf3995fdb8b59db3739e37acff38", func := "sleuth/sleuthlaw04.ChecksumCombines", spec := "checksumCombines", apart := false, narrowed := true }
def ChecksumCombinesUptoSaid : Prop := checksumCombinesUptoRow.holds Try.pinned (OpenSpec.upto checksumCombinesSpec)

/-- 'sleuthlaw04.ChecksumAssociates', WHERE WHAT IT READS IS OF BULK AT MOST 1048576: true; the input reads as it did. -/
def checksumAssociatesUptoRow : OpenClaim := { program := "ytigilgkgkjkebaa", sum := "09c04a9ad810fef6e9c42bee25a088c11237bf3995fdb8b59db3739e37acff38", func := "sleuth/sleuthlaw04.ChecksumAssociates", spec := "checksumAssociates", apart := false, narrowed := true }
def ChecksumAssociatesUptoSaid : Prop := checksumAssociatesUptoRow.holds Try.pinned (OpenSpec.upto checksumAssociatesSpec)

/-- 'sleuthlaw04.ChecksumDetects', WHERE WHAT IT READS IS OF BULK AT MOST 1048576: true; the input reads as it did. -/
def checksumDetectsUptoRow : OpenClaim := { program := "ytigilgkgkjkebaa", sum := "09c04a9ad810fef6e9c42bee25a088c11237bf3995fdb8b59db3739e37acff38", func := "sleuth/sleuthlaw04.ChecksumDetects", spec := "checksumDetects", apart := false, narrowed := true }
def ChecksumDetectsUptoSaid : Prop := checksumDetectsUptoRow.holds Try.pinned (OpenSpec.upto checksumDetectsSpec)

/-- 'sleuthlaw04.ChecksumMixes', WHERE WHAT IT READS IS OF BULK AT MOST 1048576: true; the input reads as it did. -/
def checksumMixesUptoRow : OpenClaim := { program := "ytigilgkgkjkebaa", sum := "09c04a9ad810fef6e9c42bee25a088c11237bf3995fdb8b59db3739e37acff38", func := "sleuth/sleuthlaw04.ChecksumMixes", spec := "checksumMixes", apart := false, narrowed := true }
def ChecksumMixesUptoSaid : Prop := checksumMixesUptoRow.holds Try.pinned (OpenSpec.upto checksumMixesSpec)

/-- 'sleuthlaw04.ChecksumTexts', WHERE WHAT IT READS IS OF BULK AT MOST 1048576: true; the input reads as it did. -/
def checksumTextsUptoRow : OpenClaim := { program := "ytigilgkgkjkebaa", sum := "09c04a9ad810fef6e9c42bee25a088c11237bf3995fdb8b59db3739e37acff38", func := "sleuth/sleuthlaw04.ChecksumTexts", spec := "checksumTexts", apart := false, narrowed := true }
def ChecksumTextsUptoSaid : Prop := checksumTextsUptoRow.holds Try.pinned (OpenSpec.upto checksumTextsSpec)

/-- 'sleuthlaw04.ChecksumChains', WHERE WHAT IT READS IS OF BULK AT MOST 1048576: true; the input reads as it did. -/
def checksumChainsUptoRow : OpenClaim := { program := "ytigilgkgkjkebaa", sum := "09c04a9ad810fef6e9c42bee25a088c11237bf3995fdb8b59db3739e37acff38", func := "sleuth/sleuthlaw04.ChecksumChains", spec := "checksumChains", apart := false, narrowed := true }
def ChecksumChainsUptoSaid : Prop := checksumChainsUptoRow.holds Try.pinned (OpenSpec.upto checksumChainsSpec)

/-- 'sleuthlaw04.ChecksumAlters', WHERE WHAT IT READS IS OF BULK AT MOST 1048576: true; the input reads as it did. -/
def checksumAltersUptoRow : OpenClaim := { program := "ytigilgkgkjkebaa", sum := "09c04a9ad810fef6e9c42bee25a088c11237bf3995fdb8b59db3739e37acff38", func := "sleuth/sleuthlaw04.ChecksumAlters", spec := "checksumAlters", apart := false, narrowed := true }
def ChecksumAltersUptoSaid : Prop := checksumAltersUptoRow.holds Try.pinned (OpenSpec.upto checksumAltersSpec)

end Rows
end Go.Proofs.Ytigilgkgkjkebaa
