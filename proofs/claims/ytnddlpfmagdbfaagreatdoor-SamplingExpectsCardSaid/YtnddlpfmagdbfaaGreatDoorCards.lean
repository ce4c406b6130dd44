/-
  DERIVED. GIVEN WITH THE SEED: THE CARDS: each row of YtnddlpfmagdbfaaGreatDoorRows.lean that lists a variable, with what it lists TIED to the program's text (the seventh form; the later family's looks); each row that meets fmt, with fmt's text TOLD by the authors' own Lean function (tested against real Go, not proved from fmt's source: count such statements apart). THE CARD IS WHAT COUNTS. Prove the row's statement (the work); the ties are given (YtnddlpfmagdbfaaGreatDoorTie.lean); close each card by the builder's one call (the guide's Derived/Test/ToyasCard.lean, 'card_holds'). Laid BY PROGRAM, IN A SANDBOX (cutbox-door.mjs). By AI agents, Wed Nov 11 2026. No macro, syntax, notation, axiom, sorry.
-/
import Derived.Test.YtnddlpfmagdbfaaGreatDoorRows
import GoSem.ClaimSeven
namespace Go.Proofs.YtnddlpfmagdbfaaGreatDoor
namespace Rows

/-- THE TIED CARD OF 'sleuthlaw24.SamplingChecks'. -/
def samplingChecksCard : Claim7 := { stood := { row := samplingChecksRow, standIns := [], harness := (true, "ec2be55cb1bcb0522c04d17d722c36ccf6aacac1693a1552625fa4b6e57a77a1"), looks := false }, kinds := [], alts := [], laidByText := true, laidKinds := [.data, .data], laidTests := true, laidLooks := .later }
def SamplingChecksCardSaid : Prop := Claim7.holds Tryz.pinned (.plain (OpenSpec.ofChange samplingChecksSpec)) samplingChecksCard

/-- THE TIED CARD OF 'sleuthlaw24.SamplingSamples'. -/
def samplingSamplesCard : Claim7 := { stood := { row := samplingSamplesRow, standIns := [], harness := (true, "ec2be55cb1bcb0522c04d17d722c36ccf6aacac1693a1552625fa4b6e57a77a1"), looks := false }, kinds := [], alts := [], laidByText := true, laidKinds := [.data, .data], laidTests := true, laidLooks := .later }
def SamplingSamplesCardSaid : Prop := Claim7.holds Tryz.pinned (.plain (OpenSpec.ofChange samplingSamplesSpec)) samplingSamplesCard

/-- THE TIED CARD OF 'sleuthlaw24.SamplingTwice'. -/
def samplingTwiceCard : Claim7 := { stood := { row := samplingTwiceRow, standIns := [], harness := (true, "ec2be55cb1bcb0522c04d17d722c36ccf6aacac1693a1552625fa4b6e57a77a1"), looks := false }, kinds := [], alts := [], laidByText := true, laidKinds := [.data, .data], laidTests := true, laidLooks := .later }
def SamplingTwiceCardSaid : Prop := Claim7.holds Tryz.pinned (.plain (OpenSpec.ofChange samplingTwiceSpec)) samplingTwiceCard

/-- THE TIED CARD OF 'sleuthlaw24.SamplingExpects'. -/
def samplingExpectsCard : Claim7 := { stood := { row := samplingExpectsRow, standIns := [], harness := (true, "ec2be55cb1bcb0522c04d17d722c36ccf6aacac1693a1552625fa4b6e57a77a1"), looks := false }, kinds := [], alts := [], laidByText := true, laidKinds := [.data, .data], laidTests := true, laidLooks := .later }
def SamplingExpectsCardSaid : Prop := Claim7.holds Tryz.pinned (.plain (OpenSpec.ofChange samplingExpectsSpec)) samplingExpectsCard

/-- THE TIED CARD OF 'sleuthlaw24.SamplingAlone'. -/
def samplingAloneCard : Claim7 := { stood := { row := samplingAloneRow, standIns := [], harness := (true, "ec2be55cb1bcb0522c04d17d722c36ccf6aacac1693a1552625fa4b6e57a77a1"), looks := false }, kinds := [], alts := [], laidByText := true, laidKinds := [.data, .data], laidTests := true, laidLooks := .later }
def SamplingAloneCardSaid : Prop := Claim7.holds Tryz.pinned (.plain (OpenSpec.ofChange samplingAloneSpec)) samplingAloneCard

/-- THE SECOND FORM's CARD OF 'sleuthlaw24.SamplingChecks'. -/
def samplingChecksUptoCard : Claim7 := { stood := { row := samplingChecksUptoRow, standIns := [], harness := (true, "ec2be55cb1bcb0522c04d17d722c36ccf6aacac1693a1552625fa4b6e57a77a1"), looks := false }, kinds := [], alts := [], laidByText := true, laidKinds := [.data, .data], laidTests := true, laidLooks := .later }
def SamplingChecksUptoCardSaid : Prop := Claim7.holds Tryz.pinned (.plain (OpenSpec.upto samplingChecksSpec)) samplingChecksUptoCard

/-- THE SECOND FORM's CARD OF 'sleuthlaw24.SamplingSamples'. -/
def samplingSamplesUptoCard : Claim7 := { stood := { row := samplingSamplesUptoRow, standIns := [], harness := (true, "ec2be55cb1bcb0522c04d17d722c36ccf6aacac1693a1552625fa4b6e57a77a1"), looks := false }, kinds := [], alts := [], laidByText := true, laidKinds := [.data, .data], laidTests := true, laidLooks := .later }
def SamplingSamplesUptoCardSaid : Prop := Claim7.holds Tryz.pinned (.plain (OpenSpec.upto samplingSamplesSpec)) samplingSamplesUptoCard

/-- THE SECOND FORM's CARD OF 'sleuthlaw24.SamplingTwice'. -/
def samplingTwiceUptoCard : Claim7 := { stood := { row := samplingTwiceUptoRow, standIns := [], harness := (true, "ec2be55cb1bcb0522c04d17d722c36ccf6aacac1693a1552625fa4b6e57a77a1"), looks := false }, kinds := [], alts := [], laidByText := true, laidKinds := [.data, .data], laidTests := true, laidLooks := .later }
def SamplingTwiceUptoCardSaid : Prop := Claim7.holds Tryz.pinned (.plain (OpenSpec.upto samplingTwiceSpec)) samplingTwiceUptoCard

/-- THE SECOND FORM's CARD OF 'sleuthlaw24.SamplingExpects'. -/
def samplingExpectsUptoCard : Claim7 := { stood := { row := samplingExpectsUptoRow, standIns := [], harness := (true, "ec2be55cb1bcb0522c04d17d722c36ccf6aacac1693a1552625fa4b6e57a77a1"), looks := false }, kinds := [], alts := [], laidByText := true, laidKinds := [.data, .data], laidTests := true, laidLooks := .later }
def SamplingExpectsUptoCardSaid : Prop := Claim7.holds Tryz.pinned (.plain (OpenSpec.upto samplingExpectsSpec)) samplingExpectsUptoCard

/-- THE SECOND FORM's CARD OF 'sleuthlaw24.SamplingAlone'. -/
def samplingAloneUptoCard : Claim7 := { stood := { row := samplingAloneUptoRow, standIns := [], harness := (true, "ec2be55cb1bcb0522c04d17d722c36ccf6aacac1693a1552625fa4b6e57a77a1"), looks := false }, kinds := [], alts := [], laidByText := true, laidKinds := [.data, .data], laidTests := true, laidLooks := .later }
def SamplingAloneUptoCardSaid : Prop := Claim7.holds Tryz.pinned (.plain (OpenSpec.upto samplingAloneSpec)) samplingAloneUptoCard
end Rows
end Go.Proofs.YtnddlpfmagdbfaaGreatDoor
