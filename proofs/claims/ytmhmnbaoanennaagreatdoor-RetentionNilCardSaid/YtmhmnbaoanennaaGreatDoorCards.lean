/-
  DERIVED. GIVEN WITH THE SEED: THE CARDS: each row of YtmhmnbaoanennaaGreatDoorRows.lean that lists a variable, with what it lists TIED to the program's text (the seventh form; the later family's looks); each row that meets fmt, with fmt's text TOLD by the authors' own Lean function (tested against real Go, not proved from fmt's source: count such statements apart). THE CARD IS WHAT COUNTS. Prove the row's statement (the work); the ties are given (YtmhmnbaoanennaaGreatDoorTie.lean); close each card by the builder's one call (the guide's Derived/Test/ToyasCard.lean, 'card_holds'). Laid BY PROGRAM, IN A SANDBOX (cutbox-door.mjs). By AI agents, Wed Nov 11 2026. No macro, syntax, notation, axiom, sorry.
-/
import Derived.Test.YtmhmnbaoanennaaGreatDoorRows
import GoSem.ClaimSeven
namespace Go.Proofs.YtmhmnbaoanennaaGreatDoor
namespace Rows

/-- THE TIED CARD OF 'sleuthlaw33.RetentionChecks'. -/
def retentionChecksCard : Claim7 := { stood := { row := retentionChecksRow, standIns := [], harness := (true, "416917e83ea02b7a503e32e9a256791b3e6d2c3e2dbf077a7fe906f10e14e473"), looks := true }, kinds := [], alts := [], laidByText := true, laidKinds := [.data, .data], laidTests := true, laidLooks := .later }
def RetentionChecksCardSaid : Prop := Claim7.holds Tryz.pinned (.plain (OpenSpec.ofChange retentionChecksSpec)) retentionChecksCard

/-- THE TIED CARD OF 'sleuthlaw33.RetentionTiers'. -/
def retentionTiersCard : Claim7 := { stood := { row := retentionTiersRow, standIns := [], harness := (true, "416917e83ea02b7a503e32e9a256791b3e6d2c3e2dbf077a7fe906f10e14e473"), looks := true }, kinds := [], alts := [], laidByText := true, laidKinds := [.data, .data], laidTests := true, laidLooks := .later }
def RetentionTiersCardSaid : Prop := Claim7.holds Tryz.pinned (.plain (OpenSpec.ofChange retentionTiersSpec)) retentionTiersCard

/-- THE TIED CARD OF 'sleuthlaw33.RetentionForgets'. -/
def retentionForgetsCard : Claim7 := { stood := { row := retentionForgetsRow, standIns := [], harness := (true, "416917e83ea02b7a503e32e9a256791b3e6d2c3e2dbf077a7fe906f10e14e473"), looks := true }, kinds := [], alts := [], laidByText := true, laidKinds := [.data, .data], laidTests := true, laidLooks := .later }
def RetentionForgetsCardSaid : Prop := Claim7.holds Tryz.pinned (.plain (OpenSpec.ofChange retentionForgetsSpec)) retentionForgetsCard

/-- THE TIED CARD OF 'sleuthlaw33.RetentionRuns'. -/
def retentionRunsCard : Claim7 := { stood := { row := retentionRunsRow, standIns := [], harness := (true, "416917e83ea02b7a503e32e9a256791b3e6d2c3e2dbf077a7fe906f10e14e473"), looks := true }, kinds := [], alts := [], laidByText := true, laidKinds := [.data, .data], laidTests := true, laidLooks := .later }
def RetentionRunsCardSaid : Prop := Claim7.holds Tryz.pinned (.plain (OpenSpec.ofChange retentionRunsSpec)) retentionRunsCard

/-- THE TIED CARD OF 'sleuthlaw33.RetentionCounts'. -/
def retentionCountsCard : Claim7 := { stood := { row := retentionCountsRow, standIns := [], harness := (true, "416917e83ea02b7a503e32e9a256791b3e6d2c3e2dbf077a7fe906f10e14e473"), looks := true }, kinds := [], alts := [], laidByText := true, laidKinds := [.data, .data], laidTests := true, laidLooks := .later }
def RetentionCountsCardSaid : Prop := Claim7.holds Tryz.pinned (.plain (OpenSpec.ofChange retentionCountsSpec)) retentionCountsCard

/-- THE TIED CARD OF 'sleuthlaw33.RetentionAdds'. -/
def retentionAddsCard : Claim7 := { stood := { row := retentionAddsRow, standIns := [], harness := (true, "416917e83ea02b7a503e32e9a256791b3e6d2c3e2dbf077a7fe906f10e14e473"), looks := true }, kinds := [], alts := [], laidByText := true, laidKinds := [.data, .data], laidTests := true, laidLooks := .later }
def RetentionAddsCardSaid : Prop := Claim7.holds Tryz.pinned (.plain (OpenSpec.ofChange retentionAddsSpec)) retentionAddsCard

/-- THE TIED CARD OF 'sleuthlaw33.RetentionSteps'. -/
def retentionStepsCard : Claim7 := { stood := { row := retentionStepsRow, standIns := [], harness := (true, "416917e83ea02b7a503e32e9a256791b3e6d2c3e2dbf077a7fe906f10e14e473"), looks := true }, kinds := [], alts := [], laidByText := true, laidKinds := [.data, .data], laidTests := true, laidLooks := .later }
def RetentionStepsCardSaid : Prop := Claim7.holds Tryz.pinned (.plain (OpenSpec.ofChange retentionStepsSpec)) retentionStepsCard

/-- THE TIED CARD OF 'sleuthlaw33.RetentionRefuses'. -/
def retentionRefusesCard : Claim7 := { stood := { row := retentionRefusesRow, standIns := [], harness := (true, "416917e83ea02b7a503e32e9a256791b3e6d2c3e2dbf077a7fe906f10e14e473"), looks := true }, kinds := [], alts := [], laidByText := true, laidKinds := [.data, .data], laidTests := true, laidLooks := .later }
def RetentionRefusesCardSaid : Prop := Claim7.holds Tryz.pinned (.plain (OpenSpec.ofChange retentionRefusesSpec)) retentionRefusesCard

/-- THE TIED CARD OF 'sleuthlaw33.RetentionCopies'. -/
def retentionCopiesCard : Claim7 := { stood := { row := retentionCopiesRow, standIns := [], harness := (true, "416917e83ea02b7a503e32e9a256791b3e6d2c3e2dbf077a7fe906f10e14e473"), looks := true }, kinds := [], alts := [], laidByText := true, laidKinds := [.data, .data], laidTests := true, laidLooks := .later }
def RetentionCopiesCardSaid : Prop := Claim7.holds Tryz.pinned (.plain (OpenSpec.ofChange retentionCopiesSpec)) retentionCopiesCard

/-- THE TIED CARD OF 'sleuthlaw33.RetentionNil'. -/
def retentionNilCard : Claim7 := { stood := { row := retentionNilRow, standIns := [], harness := (true, "416917e83ea02b7a503e32e9a256791b3e6d2c3e2dbf077a7fe906f10e14e473"), looks := true }, kinds := [], alts := [], laidByText := true, laidKinds := [.data, .data], laidTests := true, laidLooks := .later }
def RetentionNilCardSaid : Prop := Claim7.holds Tryz.pinned (.plain (OpenSpec.ofChange retentionNilSpec)) retentionNilCard

/-- THE SECOND FORM's CARD OF 'sleuthlaw33.RetentionChecks'. -/
def retentionChecksUptoCard : Claim7 := { stood := { row := retentionChecksUptoRow, standIns := [], harness := (true, "416917e83ea02b7a503e32e9a256791b3e6d2c3e2dbf077a7fe906f10e14e473"), looks := true }, kinds := [], alts := [], laidByText := true, laidKinds := [.data, .data], laidTests := true, laidLooks := .later }
def RetentionChecksUptoCardSaid : Prop := Claim7.holds Tryz.pinned (.plain (OpenSpec.upto retentionChecksSpec)) retentionChecksUptoCard

/-- THE SECOND FORM's CARD OF 'sleuthlaw33.RetentionTiers'. -/
def retentionTiersUptoCard : Claim7 := { stood := { row := retentionTiersUptoRow, standIns := [], harness := (true, "416917e83ea02b7a503e32e9a256791b3e6d2c3e2dbf077a7fe906f10e14e473"), looks := true }, kinds := [], alts := [], laidByText := true, laidKinds := [.data, .data], laidTests := true, laidLooks := .later }
def RetentionTiersUptoCardSaid : Prop := Claim7.holds Tryz.pinned (.plain (OpenSpec.upto retentionTiersSpec)) retentionTiersUptoCard

/-- THE SECOND FORM's CARD OF 'sleuthlaw33.RetentionForgets'. -/
def retentionForgetsUptoCard : Claim7 := { stood := { row := retentionForgetsUptoRow, standIns := [], harness := (true, "416917e83ea02b7a503e32e9a256791b3e6d2c3e2dbf077a7fe906f10e14e473"), looks := true }, kinds := [], alts := [], laidByText := true, laidKinds := [.data, .data], laidTests := true, laidLooks := .later }
def RetentionForgetsUptoCardSaid : Prop := Claim7.holds Tryz.pinned (.plain (OpenSpec.upto retentionForgetsSpec)) retentionForgetsUptoCard

/-- THE SECOND FORM's CARD OF 'sleuthlaw33.RetentionRuns'. -/
def retentionRunsUptoCard : Claim7 := { stood := { row := retentionRunsUptoRow, standIns := [], harness := (true, "416917e83ea02b7a503e32e9a256791b3e6d2c3e2dbf077a7fe906f10e14e473"), looks := true }, kinds := [], alts := [], laidByText := true, laidKinds := [.data, .data], laidTests := true, laidLooks := .later }
def RetentionRunsUptoCardSaid : Prop := Claim7.holds Tryz.pinned (.plain (OpenSpec.upto retentionRunsSpec)) retentionRunsUptoCard

/-- THE SECOND FORM's CARD OF 'sleuthlaw33.RetentionCounts'. -/
def retentionCountsUptoCard : Claim7 := { stood := { row := retentionCountsUptoRow, standIns := [], harness := (true, "416917e83ea02b7a503e32e9a256791b3e6d2c3e2dbf077a7fe906f10e14e473"), looks := true }, kinds := [], alts := [], laidByText := true, laidKinds := [.data, .data], laidTests := true, laidLooks := .later }
def RetentionCountsUptoCardSaid : Prop := Claim7.holds Tryz.pinned (.plain (OpenSpec.upto retentionCountsSpec)) retentionCountsUptoCard

/-- THE SECOND FORM's CARD OF 'sleuthlaw33.RetentionAdds'. -/
def retentionAddsUptoCard : Claim7 := { stood := { row := retentionAddsUptoRow, standIns := [], harness := (true, "416917e83ea02b7a503e32e9a256791b3e6d2c3e2dbf077a7fe906f10e14e473"), looks := true }, kinds := [], alts := [], laidByText := true, laidKinds := [.data, .data], laidTests := true, laidLooks := .later }
def RetentionAddsUptoCardSaid : Prop := Claim7.holds Tryz.pinned (.plain (OpenSpec.upto retentionAddsSpec)) retentionAddsUptoCard

/-- THE SECOND FORM's CARD OF 'sleuthlaw33.RetentionSteps'. -/
def retentionStepsUptoCard : Claim7 := { stood := { row := retentionStepsUptoRow, standIns := [], harness := (true, "416917e83ea02b7a503e32e9a256791b3e6d2c3e2dbf077a7fe906f10e14e473"), looks := true }, kinds := [], alts := [], laidByText := true, laidKinds := [.data, .data], laidTests := true, laidLooks := .later }
def RetentionStepsUptoCardSaid : Prop := Claim7.holds Tryz.pinned (.plain (OpenSpec.upto retentionStepsSpec)) retentionStepsUptoCard

/-- THE SECOND FORM's CARD OF 'sleuthlaw33.RetentionRefuses'. -/
def retentionRefusesUptoCard : Claim7 := { stood := { row := retentionRefusesUptoRow, standIns := [], harness := (true, "416917e83ea02b7a503e32e9a256791b3e6d2c3e2dbf077a7fe906f10e14e473"), looks := true }, kinds := [], alts := [], laidByText := true, laidKinds := [.data, .data], laidTests := true, laidLooks := .later }
def RetentionRefusesUptoCardSaid : Prop := Claim7.holds Tryz.pinned (.plain (OpenSpec.upto retentionRefusesSpec)) retentionRefusesUptoCard

/-- THE SECOND FORM's CARD OF 'sleuthlaw33.RetentionCopies'. -/
def retentionCopiesUptoCard : Claim7 := { stood := { row := retentionCopiesUptoRow, standIns := [], harness := (true, "416917e83ea02b7a503e32e9a256791b3e6d2c3e2dbf077a7fe906f10e14e473"), looks := true }, kinds := [], alts := [], laidByText := true, laidKinds := [.data, .data], laidTests := true, laidLooks := .later }
def RetentionCopiesUptoCardSaid : Prop := Claim7.holds Tryz.pinned (.plain (OpenSpec.upto retentionCopiesSpec)) retentionCopiesUptoCard

/-- THE SECOND FORM's CARD OF 'sleuthlaw33.RetentionNil'. -/
def retentionNilUptoCard : Claim7 := { stood := { row := retentionNilUptoRow, standIns := [], harness := (true, "416917e83ea02b7a503e32e9a256791b3e6d2c3e2dbf077a7fe906f10e14e473"), looks := true }, kinds := [], alts := [], laidByText := true, laidKinds := [.data, .data], laidTests := true, laidLooks := .later }
def RetentionNilUptoCardSaid : Prop := Claim7.holds Tryz.pinned (.plain (OpenSpec.upto retentionNilSpec)) retentionNilUptoCard
end Rows
end Go.Proofs.YtmhmnbaoanennaaGreatDoor
