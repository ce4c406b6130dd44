/-
  DERIVED. GIVEN WITH THE SEED: THE CARDS: each row of YtlhhkgidpobgfaaGreatDoorRows.lean that lists a variable, with what it lists TIED to the program's text (the seventh form; the later family's looks); each row that meets fmt, with fmt's text TOLD by the authors' own Lean function (tested against real Go, not proved from fmt's source: count such statements apart). THE CARD IS WHAT COUNTS. Prove the row's statement (the work); the ties are given (YtlhhkgidpobgfaaGreatDoorTie.lean); close each card by the builder's one call (the guide's Derived/Test/ToyasCard.lean, 'card_holds'). Laid BY PROGRAM, IN A SANDBOX (cutbox-door.mjs). By AI agents, Wed Nov 11 2026. No macro, syntax, notation, axiom, sorry.
-/
import Derived.Test.YtlhhkgidpobgfaaGreatDoorRows
import GoSem.ClaimSeven
namespace Go.Proofs.YtlhhkgidpobgfaaGreatDoor
namespace Rows

/-- THE TIED CARD OF 'sleuthlaw34.ReplicaDiffers'. -/
def replicaDiffersCard : Claim7 := { stood := { row := replicaDiffersRow, standIns := [], harness := (true, "492514d1f0f8d0e527d48ebe008f358f5b92ac5f352663197181db4206132c5d"), looks := true }, kinds := [], alts := [], laidByText := true, laidKinds := [.data, .data], laidTests := true, laidLooks := .later }
def ReplicaDiffersCardSaid : Prop := Claim7.holds Tryz.pinned (.plain (OpenSpec.ofChange replicaDiffersSpec)) replicaDiffersCard

/-- THE TIED CARD OF 'sleuthlaw34.ReplicaForgets'. -/
def replicaForgetsCard : Claim7 := { stood := { row := replicaForgetsRow, standIns := [], harness := (true, "492514d1f0f8d0e527d48ebe008f358f5b92ac5f352663197181db4206132c5d"), looks := true }, kinds := [], alts := [], laidByText := true, laidKinds := [.data, .data], laidTests := true, laidLooks := .later }
def ReplicaForgetsCardSaid : Prop := Claim7.holds Tryz.pinned (.plain (OpenSpec.ofChange replicaForgetsSpec)) replicaForgetsCard

/-- THE TIED CARD OF 'sleuthlaw34.ReplicaAgain'. -/
def replicaAgainCard : Claim7 := { stood := { row := replicaAgainRow, standIns := [], harness := (true, "492514d1f0f8d0e527d48ebe008f358f5b92ac5f352663197181db4206132c5d"), looks := true }, kinds := [], alts := [], laidByText := true, laidKinds := [.data, .data], laidTests := true, laidLooks := .later }
def ReplicaAgainCardSaid : Prop := Claim7.holds Tryz.pinned (.plain (OpenSpec.ofChange replicaAgainSpec)) replicaAgainCard

/-- THE TIED CARD OF 'sleuthlaw34.ReplicaDigests'. -/
def replicaDigestsCard : Claim7 := { stood := { row := replicaDigestsRow, standIns := [], harness := (true, "492514d1f0f8d0e527d48ebe008f358f5b92ac5f352663197181db4206132c5d"), looks := true }, kinds := [], alts := [], laidByText := true, laidKinds := [.data, .data], laidTests := true, laidLooks := .later }
def ReplicaDigestsCardSaid : Prop := Claim7.holds Tryz.pinned (.plain (OpenSpec.ofChange replicaDigestsSpec)) replicaDigestsCard

/-- THE TIED CARD OF 'sleuthlaw34.ReplicaRuns'. -/
def replicaRunsCard : Claim7 := { stood := { row := replicaRunsRow, standIns := [], harness := (true, "492514d1f0f8d0e527d48ebe008f358f5b92ac5f352663197181db4206132c5d"), looks := true }, kinds := [], alts := [], laidByText := true, laidKinds := [.data, .data], laidTests := true, laidLooks := .later }
def ReplicaRunsCardSaid : Prop := Claim7.holds Tryz.pinned (.plain (OpenSpec.ofChange replicaRunsSpec)) replicaRunsCard

/-- THE TIED CARD OF 'sleuthlaw34.ReplicaClones'. -/
def replicaClonesCard : Claim7 := { stood := { row := replicaClonesRow, standIns := [], harness := (true, "492514d1f0f8d0e527d48ebe008f358f5b92ac5f352663197181db4206132c5d"), looks := true }, kinds := [], alts := [], laidByText := true, laidKinds := [.data, .data], laidTests := true, laidLooks := .later }
def ReplicaClonesCardSaid : Prop := Claim7.holds Tryz.pinned (.plain (OpenSpec.ofChange replicaClonesSpec)) replicaClonesCard

/-- THE TIED CARD OF 'sleuthlaw34.ReplicaNil'. -/
def replicaNilCard : Claim7 := { stood := { row := replicaNilRow, standIns := [], harness := (true, "492514d1f0f8d0e527d48ebe008f358f5b92ac5f352663197181db4206132c5d"), looks := true }, kinds := [], alts := [], laidByText := true, laidKinds := [.data, .data], laidTests := true, laidLooks := .later }
def ReplicaNilCardSaid : Prop := Claim7.holds Tryz.pinned (.plain (OpenSpec.ofChange replicaNilSpec)) replicaNilCard

/-- THE SECOND FORM's CARD OF 'sleuthlaw34.ReplicaDiffers'. -/
def replicaDiffersUptoCard : Claim7 := { stood := { row := replicaDiffersUptoRow, standIns := [], harness := (true, "492514d1f0f8d0e527d48ebe008f358f5b92ac5f352663197181db4206132c5d"), looks := true }, kinds := [], alts := [], laidByText := true, laidKinds := [.data, .data], laidTests := true, laidLooks := .later }
def ReplicaDiffersUptoCardSaid : Prop := Claim7.holds Tryz.pinned (.plain (OpenSpec.upto replicaDiffersSpec)) replicaDiffersUptoCard

/-- THE SECOND FORM's CARD OF 'sleuthlaw34.ReplicaForgets'. -/
def replicaForgetsUptoCard : Claim7 := { stood := { row := replicaForgetsUptoRow, standIns := [], harness := (true, "492514d1f0f8d0e527d48ebe008f358f5b92ac5f352663197181db4206132c5d"), looks := true }, kinds := [], alts := [], laidByText := true, laidKinds := [.data, .data], laidTests := true, laidLooks := .later }
def ReplicaForgetsUptoCardSaid : Prop := Claim7.holds Tryz.pinned (.plain (OpenSpec.upto replicaForgetsSpec)) replicaForgetsUptoCard

/-- THE SECOND FORM's CARD OF 'sleuthlaw34.ReplicaAgain'. -/
def replicaAgainUptoCard : Claim7 := { stood := { row := replicaAgainUptoRow, standIns := [], harness := (true, "492514d1f0f8d0e527d48ebe008f358f5b92ac5f352663197181db4206132c5d"), looks := true }, kinds := [], alts := [], laidByText := true, laidKinds := [.data, .data], laidTests := true, laidLooks := .later }
def ReplicaAgainUptoCardSaid : Prop := Claim7.holds Tryz.pinned (.plain (OpenSpec.upto replicaAgainSpec)) replicaAgainUptoCard

/-- THE SECOND FORM's CARD OF 'sleuthlaw34.ReplicaDigests'. -/
def replicaDigestsUptoCard : Claim7 := { stood := { row := replicaDigestsUptoRow, standIns := [], harness := (true, "492514d1f0f8d0e527d48ebe008f358f5b92ac5f352663197181db4206132c5d"), looks := true }, kinds := [], alts := [], laidByText := true, laidKinds := [.data, .data], laidTests := true, laidLooks := .later }
def ReplicaDigestsUptoCardSaid : Prop := Claim7.holds Tryz.pinned (.plain (OpenSpec.upto replicaDigestsSpec)) replicaDigestsUptoCard

/-- THE SECOND FORM's CARD OF 'sleuthlaw34.ReplicaRuns'. -/
def replicaRunsUptoCard : Claim7 := { stood := { row := replicaRunsUptoRow, standIns := [], harness := (true, "492514d1f0f8d0e527d48ebe008f358f5b92ac5f352663197181db4206132c5d"), looks := true }, kinds := [], alts := [], laidByText := true, laidKinds := [.data, .data], laidTests := true, laidLooks := .later }
def ReplicaRunsUptoCardSaid : Prop := Claim7.holds Tryz.pinned (.plain (OpenSpec.upto replicaRunsSpec)) replicaRunsUptoCard

/-- THE SECOND FORM's CARD OF 'sleuthlaw34.ReplicaClones'. -/
def replicaClonesUptoCard : Claim7 := { stood := { row := replicaClonesUptoRow, standIns := [], harness := (true, "492514d1f0f8d0e527d48ebe008f358f5b92ac5f352663197181db4206132c5d"), looks := true }, kinds := [], alts := [], laidByText := true, laidKinds := [.data, .data], laidTests := true, laidLooks := .later }
def ReplicaClonesUptoCardSaid : Prop := Claim7.holds Tryz.pinned (.plain (OpenSpec.upto replicaClonesSpec)) replicaClonesUptoCard

/-- THE SECOND FORM's CARD OF 'sleuthlaw34.ReplicaNil'. -/
def replicaNilUptoCard : Claim7 := { stood := { row := replicaNilUptoRow, standIns := [], harness := (true, "492514d1f0f8d0e527d48ebe008f358f5b92ac5f352663197181db4206132c5d"), looks := true }, kinds := [], alts := [], laidByText := true, laidKinds := [.data, .data], laidTests := true, laidLooks := .later }
def ReplicaNilUptoCardSaid : Prop := Claim7.holds Tryz.pinned (.plain (OpenSpec.upto replicaNilSpec)) replicaNilUptoCard
end Rows
end Go.Proofs.YtlhhkgidpobgfaaGreatDoor
