/- The row and the tied card of the law StoreNil: for every input it returns true, and the input reads as it did. Condition of the row: the two tables of math/bits read as the program lays them, which the card ties to its text. -/
import Derived.Test.YtoaklgjamkbobaaGreatDoorRows
import Derived.Test.YtoaklgjamkbobaaGreatDoorLift
import Derived.Test.YtoaklgjamkbobaaGreatDoorFacts
import Derived.Test.YtoaklgjamkbobaaGreatDoorCards
import Derived.Test.YtoaklgjamkbobaaGreatDoorTie
import Derived.Test.YtoaklgjamkbobaaGreatDoorLaid
import Derived.Test.YtoaklgjamkbobaaGreatDoorNil
import Derived.WalkKit
import Derived.ProofKit
import Derived.OpenShut
import Derived.LaidMore
import Derived.ChangeOld
import Derived.Below
import Derived.SizedLaws
import Derived.SevenTiedAt
namespace Go.Proofs.YtoaklgjamkbobaaGreatDoor.storeNil
open Go Go.Ev Go.ChangeShapes Go.WideShapes Go.ChangeAt Go.RowKit
set_option linter.unusedVariables false
set_option maxHeartbeats 400000000 in
theorem wrapped : Tryz.f3.isWrapper Tryz.prog Rows.storeNilRow.wrapper Rows.storeNilRow.mainSum := by
  unfold Func.isWrapper; first | (rw [if_pos (by decide +kernel)]; kernel_rfl) | (rw [if_neg (by decide +kernel)]; exact ⟨rfl, rfl⟩)
theorem named : Tryz.prog.funcNamed "sleuth/sleuthlaw35.StoreNil" = some 3 := by kernel_rfl
theorem inst : Tryz.f3.isInstance Tryz.prog Rows.storeNilRow.origin Rows.storeNilRow.targs := of_decide_eq_true (by kernel_rfl)
set_option maxHeartbeats 400000000 in
theorem over : Rows.StoreNilSaid :=
  OpenClaim.holds_of_wide 3 Tryz.f3 rfl rfl rfl rfl rfl rfl rfl ⟨rfl, rfl, rfl, rfl, rfl⟩ rfl rfl rfl rfl rfl named Tryz.func3 closed3 inst wrapped
    (fun os started H enc _ => lifted os started H enc)
theorem looked : true = Tryz.prog.looks [] := by kernel_rfl
theorem text0 : Rows.storeNilRow.wfByText (OpenSpec.ofChange Rows.storeNilSpec) = true := by kernel_rfl
theorem main0 : Tryz.prog.mainIs = some (true, "4652bf52138ee01eabf463328af7eb16fbff81a40b6eec6ef5b9f5338ace09d7".toList) := by kernel_rfl
theorem goes0 : false = Rows.storeNilRow.goesBy Tryz.prog := by kernel_rfl
theorem stand0 : ([3, 3, 3].all fun u => !Tryz.prog.wantsStandIn u) = true := by kernel_rfl
end Go.Proofs.YtoaklgjamkbobaaGreatDoor.storeNil
namespace Go.Proofs.YtoaklgjamkbobaaGreatDoor
/-- The tied card, under a short name, for the claim. -/
theorem storeNil_holds : Rows.StoreNilCardSaid :=
  Claim7.holds_tied_plain_at .later [] [.data, .data] true (true, "4652bf52138ee01eabf463328af7eb16fbff81a40b6eec6ef5b9f5338ace09d7") true
    storeNil.over (fun _ h => by cases h) storeNil.text0 (fun _ h => by cases h) storeNil_row_tie rfl ⟨rfl, rfl⟩ storeNil.main0 rfl
    (fun f fn hf hfn => by
      obtain rfl : f = 3 := Option.some.inj (storeNil.named.symm.trans hf) |>.symm
      obtain rfl : fn = Tryz.f3 := (Option.some.inj (Tryz.func3.symm.trans hfn)).symm
      exact ⟨storeNil.looked, fun j t ht => by
        rw [Tryz.params3] at ht
        have hm : t ∈ [3, 3, 3] := by simpa using Array.mem_of_getElem? ht
        exact (show Tryz.prog.wantsStandIn t = false by simpa using List.all_eq_true.1 storeNil.stand0 t hm)⟩)
    storeNil.goes0
#print axioms storeNil_holds
end Go.Proofs.YtoaklgjamkbobaaGreatDoor
