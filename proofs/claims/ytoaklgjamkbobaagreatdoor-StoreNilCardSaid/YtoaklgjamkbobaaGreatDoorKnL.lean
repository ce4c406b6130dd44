/- The evaluator comes through the self-test, which gives true. -/
import Derived.Test.YtoaklgjamkbobaaGreatDoorParse
set_option linter.unusedVariables false
namespace Go.Proofs.YtoaklgjamkbobaaGreatDoor
open Go Go.Ev Go.Proofs Go.RowKit
set_option maxRecDepth 100000
/-- The number of a segment's name, where the log is named spans and the name is that of the first one. -/
noncomputable def parseG (args : List Value) (h : Hp) : Option (Value × Hp) :=
  match args with
  | [.pointer (some a), .string s] => match a.spot, rd1 h ⟨a.block, Nat.add a.off 1, none⟩ with
    | none, some (.string n) => bif eqBL n.data.toList sSpans.data.toList && eqBL s.data.toList sFile.data.toList then some (.tuple #[.int .i64 1, .bool true], h) else none
    | _, _ => none
  | _ => none
/-- The functions that are not run, but known. -/
noncomputable def ext2 : Ext := fun f => bif Nat.beq f 61 then some parseG else ext1 f
/-- The package-level variables that it reads. -/
noncomputable def gl : List (Nat × List Value) := []
/-- A function's code. -/
def bodyOf (fn : Func) : Code :=
  match fn.body with
  | some c => c
  | none => .skip
theorem knLast (ty : Nat → TypeId) : lastVal Tryz.prog Tryz.f10.results.toList (evCode Tryz.prog (evCall Tryz.prog ext2 3000) 3000 (bodyOf Tryz.f10) (Snap.toFr ⟨[], [], 64⟩) (Snap.toHp (blksOf ty gl) ⟨[], [], 64⟩)) = some [.bool true] := by kernel_rfl
end Go.Proofs.YtoaklgjamkbobaaGreatDoor
