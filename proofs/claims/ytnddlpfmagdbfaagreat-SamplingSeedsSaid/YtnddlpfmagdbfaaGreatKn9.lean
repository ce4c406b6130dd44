/- The evaluator comes through stretch 0 of the self-test and is in the state that is written out. -/
import Derived.Test.YtnddlpfmagdbfaaGreatProg
import Derived.KernelRfl
import Derived.Test.YtnddlpfmagdbfaaGreatEvC
set_option linter.unusedVariables false
namespace Go.Proofs.YtnddlpfmagdbfaaGreat
open Go Go.Ev Go.Proofs
set_option maxRecDepth 100000

/-- A function's code. -/
def bodyOf (fn : Func) : Code :=
  match fn.body with
  | some c => c
  | none => .skip
/-- What is kept behind the stretch. -/
def ts0 : List Nat := [0]
def bs0 : List Nat := []
def snap0 : Snap := ⟨[(0, (.bool false))],
  [], 0⟩
theorem kn0 : snapOf ts0 bs0 (evCode Tryz.prog (evCall Tryz.prog noExt 3000) 3000 (headC (bodyOf Tryz.f6)) (Snap.toFr ⟨[], [], 0⟩) (Snap.toHp ⟨[], [], 0⟩)) = some snap0 := by kernel_rfl

/-- What is kept behind the stretch. -/
def ts1 : List Nat := [0, 1]
def bs1 : List Nat := [0, 1]
def snap1 : Snap := ⟨[(0, (.bool false)), (1, (.pointer (some ⟨1, 0, none⟩)))],
  [(0, (.cells [(.int .i64 (.ofNat 6)), (.string ⟨⟨[100, 117, 114, 97, 116, 105, 111, 110]⟩⟩), (.string ⟨⟨[]⟩⟩), (.int .i64 (.ofNat 2)), (.string ⟨⟨[]⟩⟩), (.int .i64 (.ofNat 100)), (.slice none 0 0)] 71 false)), (1, (.cells [(.int .i64 (.ofNat 3)), (.string ⟨⟨[]⟩⟩), (.string ⟨⟨[]⟩⟩), (.int .i64 (.ofNat 0)), (.string ⟨⟨[]⟩⟩), (.int .i64 (.ofNat 0)), (.slice (some ⟨0, 0, none⟩) 1 1)] 71 false))], 2⟩
theorem kn1 : snapOf ts1 bs1 (evCode Tryz.prog (evCall Tryz.prog noExt 3000) 3000 (headC (tailC (bodyOf Tryz.f6))) (Snap.toFr snap0) (Snap.toHp snap0)) = some snap1 := by kernel_rfl

/-- What is kept behind the stretch. -/
def ts2 : List Nat := [0, 2]
def bs2 : List Nat := [0, 2, 3]
def snap2 : Snap := ⟨[(0, (.bool false)), (2, (.pointer (some ⟨3, 0, none⟩)))],
  [(0, (.cells [(.int .i64 (.ofNat 6)), (.string ⟨⟨[100, 117, 114, 97, 116, 105, 111, 110]⟩⟩), (.string ⟨⟨[]⟩⟩), (.int .i64 (.ofNat 2)), (.string ⟨⟨[]⟩⟩), (.int .i64 (.ofNat 100)), (.slice none 0 0)] 71 false)), (2, (.cells [(.int .i64 (.ofNat 3)), (.string ⟨⟨[]⟩⟩), (.string ⟨⟨[]⟩⟩), (.int .i64 (.ofNat 0)), (.string ⟨⟨[]⟩⟩), (.int .i64 (.ofNat 0)), (.slice (some ⟨0, 0, none⟩) 1 1), (.int .i64 (.ofNat 3))] 73 false)), (3, (.cells [(.slice (some ⟨2, 0, none⟩) 1 1), (.int .i64 (.ofNat 5))] 45 false))], 4⟩
theorem kn2 : snapOf ts2 bs2 (evCode Tryz.prog (evCall Tryz.prog noExt 3000) 3000 (headC (tailC (tailC (bodyOf Tryz.f6)))) (Snap.toFr snap1) (Snap.toHp snap1)) = some snap2 := by kernel_rfl

/-- What is kept behind the stretch. -/
def ts3 : List Nat := [0, 2, 3]
def bs3 : List Nat := [0, 2, 3, 4]
def snap3 : Snap := ⟨[(0, (.bool false)), (2, (.pointer (some ⟨3, 0, none⟩))), (3, (.pointer (some ⟨4, 0, none⟩)))],
  [(0, (.cells [(.int .i64 (.ofNat 6)), (.string ⟨⟨[100, 117, 114, 97, 116, 105, 111, 110]⟩⟩), (.string ⟨⟨[]⟩⟩), (.int .i64 (.ofNat 2)), (.string ⟨⟨[]⟩⟩), (.int .i64 (.ofNat 100)), (.slice none 0 0)] 71 false)), (2, (.cells [(.int .i64 (.ofNat 3)), (.string ⟨⟨[]⟩⟩), (.string ⟨⟨[]⟩⟩), (.int .i64 (.ofNat 0)), (.string ⟨⟨[]⟩⟩), (.int .i64 (.ofNat 0)), (.slice (some ⟨0, 0, none⟩) 1 1), (.int .i64 (.ofNat 3))] 73 false)), (3, (.cells [(.slice (some ⟨2, 0, none⟩) 1 1), (.int .i64 (.ofNat 5))] 45 false)), (4, (.cells [(.int .i64 (.ofNat 9)), (.int .i64 (.ofNat 1)), (.int .i64 (.ofNat 0)), (.int .i64 (.ofNat 0)), (.int .i64 (.ofNat 1)), (.int .i64 (.ofNat 3)), (.string ⟨⟨[97]⟩⟩), (.string ⟨⟨[]⟩⟩), (.string ⟨⟨[111]⟩⟩), (.int .i64 (.ofNat 0)), (.int .i64 (.ofNat 120)), (.bool false), (.slice none 0 0), (.slice none 0 0)] 55 false))], 5⟩
theorem kn3 : snapOf ts3 bs3 (evCode Tryz.prog (evCall Tryz.prog noExt 3000) 3000 (headC (tailC (tailC (tailC (bodyOf Tryz.f6))))) (Snap.toFr snap2) (Snap.toHp snap2)) = some snap3 := by kernel_rfl

/-- What is kept behind the stretch. -/
def ts4 : List Nat := [0, 2, 3, 4, 5]
def bs4 : List Nat := [0, 2, 3, 4]
def snap4 : Snap := ⟨[(0, (.bool false)), (2, (.pointer (some ⟨3, 0, none⟩))), (3, (.pointer (some ⟨4, 0, none⟩))), (4, (.int .i64 (.ofNat 3))), (5, (.int .i64 (.ofNat 0)))],
  [(0, (.cells [(.int .i64 (.ofNat 6)), (.string ⟨⟨[100, 117, 114, 97, 116, 105, 111, 110]⟩⟩), (.string ⟨⟨[]⟩⟩), (.int .i64 (.ofNat 2)), (.string ⟨⟨[]⟩⟩), (.int .i64 (.ofNat 100)), (.slice none 0 0)] 71 false)), (2, (.cells [(.int .i64 (.ofNat 3)), (.string ⟨⟨[]⟩⟩), (.string ⟨⟨[]⟩⟩), (.int .i64 (.ofNat 0)), (.string ⟨⟨[]⟩⟩), (.int .i64 (.ofNat 0)), (.slice (some ⟨0, 0, none⟩) 1 1), (.int .i64 (.ofNat 3))] 73 false)), (3, (.cells [(.slice (some ⟨2, 0, none⟩) 1 1), (.int .i64 (.ofNat 5))] 45 false)), (4, (.cells [(.int .i64 (.ofNat 9)), (.int .i64 (.ofNat 1)), (.int .i64 (.ofNat 0)), (.int .i64 (.ofNat 0)), (.int .i64 (.ofNat 1)), (.int .i64 (.ofNat 3)), (.string ⟨⟨[97]⟩⟩), (.string ⟨⟨[]⟩⟩), (.string ⟨⟨[111]⟩⟩), (.int .i64 (.ofNat 0)), (.int .i64 (.ofNat 120)), (.bool false), (.slice none 0 0), (.slice none 0 0)] 55 false))], 65⟩
theorem kn4 : snapOf ts4 bs4 (evCode Tryz.prog (evCall Tryz.prog noExt 3000) 3000 (headC (tailC (tailC (tailC (tailC (bodyOf Tryz.f6)))))) (Snap.toFr snap3) (Snap.toHp snap3)) = some snap4 := by kernel_rfl

/-- What is kept behind the stretch. -/
def ts5 : List Nat := [0, 2, 3, 4, 5]
def bs5 : List Nat := [0, 2, 3, 4]
def snap5 : Snap := ⟨[(0, (.bool false)), (2, (.pointer (some ⟨3, 0, none⟩))), (3, (.pointer (some ⟨4, 0, none⟩))), (4, (.int .i64 (.ofNat 3))), (5, (.int .i64 (.ofNat 0)))],
  [(0, (.cells [(.int .i64 (.ofNat 6)), (.string ⟨⟨[100, 117, 114, 97, 116, 105, 111, 110]⟩⟩), (.string ⟨⟨[]⟩⟩), (.int .i64 (.ofNat 2)), (.string ⟨⟨[]⟩⟩), (.int .i64 (.ofNat 100)), (.slice none 0 0)] 71 false)), (2, (.cells [(.int .i64 (.ofNat 3)), (.string ⟨⟨[]⟩⟩), (.string ⟨⟨[]⟩⟩), (.int .i64 (.ofNat 0)), (.string ⟨⟨[]⟩⟩), (.int .i64 (.ofNat 0)), (.slice (some ⟨0, 0, none⟩) 1 1), (.int .i64 (.ofNat 3))] 73 false)), (3, (.cells [(.slice (some ⟨2, 0, none⟩) 1 1), (.int .i64 (.ofNat 5))] 45 false)), (4, (.cells [(.int .i64 (.ofNat 9)), (.int .i64 (.ofNat 1)), (.int .i64 (.ofNat 0)), (.int .i64 (.ofNat 0)), (.int .i64 (.ofNat 1)), (.int .i64 (.ofNat 3)), (.string ⟨⟨[97]⟩⟩), (.string ⟨⟨[]⟩⟩), (.string ⟨⟨[111]⟩⟩), (.int .i64 (.ofNat 0)), (.int .i64 (.ofNat 20)), (.bool false), (.slice none 0 0), (.slice none 0 0)] 55 false))], 65⟩
theorem kn5 : snapOf ts5 bs5 (evCode Tryz.prog (evCall Tryz.prog noExt 3000) 3000 (headC (tailC (tailC (tailC (tailC (tailC (bodyOf Tryz.f6))))))) (Snap.toFr snap4) (Snap.toHp snap4)) = some snap5 := by kernel_rfl

/-- What is kept behind the stretch. -/
def ts6 : List Nat := [0, 4, 5, 6, 7]
def bs6 : List Nat := []
def snap6 : Snap := ⟨[(0, (.bool false)), (4, (.int .i64 (.ofNat 3))), (5, (.int .i64 (.ofNat 0))), (6, (.int .i64 (.ofNat 5))), (7, (.int .i64 (.ofNat 0)))],
  [], 125⟩
theorem kn6 : snapOf ts6 bs6 (evCode Tryz.prog (evCall Tryz.prog noExt 3000) 3000 (headC (tailC (tailC (tailC (tailC (tailC (tailC (bodyOf Tryz.f6)))))))) (Snap.toFr snap5) (Snap.toHp snap5)) = some snap6 := by kernel_rfl

/-- What is kept behind the stretch. -/
def ts7 : List Nat := [0, 4, 5, 6, 7, 8, 9]
def bs7 : List Nat := []
def snap7 : Snap := ⟨[(0, (.bool false)), (4, (.int .i64 (.ofNat 3))), (5, (.int .i64 (.ofNat 0))), (6, (.int .i64 (.ofNat 5))), (7, (.int .i64 (.ofNat 0))), (8, (.int .i64 (.ofNat 32))), (9, (.int .i64 (.ofNat 0)))],
  [], 125⟩
theorem kn7 : snapOf ts7 bs7 (evCode Tryz.prog (evCall Tryz.prog noExt 3000) 3000 (headC (tailC (tailC (tailC (tailC (tailC (tailC (tailC (bodyOf Tryz.f6))))))))) (Snap.toFr snap6) (Snap.toHp snap6)) = some snap7 := by kernel_rfl

/-- What is kept behind the stretch. -/
def ts8 : List Nat := [0, 4, 5, 6, 7, 8, 9, 10]
def bs8 : List Nat := []
def snap8 : Snap := ⟨[(0, (.bool false)), (4, (.int .i64 (.ofNat 3))), (5, (.int .i64 (.ofNat 0))), (6, (.int .i64 (.ofNat 5))), (7, (.int .i64 (.ofNat 0))), (8, (.int .i64 (.ofNat 32))), (9, (.int .i64 (.ofNat 0))), (10, (.int .i64 (.ofNat 0)))],
  [], 125⟩
theorem kn8 : snapOf ts8 bs8 (evCode Tryz.prog (evCall Tryz.prog noExt 3000) 3000 (headC (tailC (tailC (tailC (tailC (tailC (tailC (tailC (tailC (bodyOf Tryz.f6)))))))))) (Snap.toFr snap7) (Snap.toHp snap7)) = some snap8 := by kernel_rfl

/-- What is kept behind the stretch. -/
def ts9 : List Nat := [0, 4, 5, 6, 7, 8, 9, 10, 11]
def bs9 : List Nat := []
def snap9 : Snap := ⟨[(0, (.bool false)), (4, (.int .i64 (.ofNat 3))), (5, (.int .i64 (.ofNat 0))), (6, (.int .i64 (.ofNat 5))), (7, (.int .i64 (.ofNat 0))), (8, (.int .i64 (.ofNat 32))), (9, (.int .i64 (.ofNat 0))), (10, (.int .i64 (.ofNat 32))), (11, (.int .i64 (.ofNat 1024)))],
  [], 125⟩
theorem kn9 : snapOf ts9 bs9 (evCode Tryz.prog (evCall Tryz.prog noExt 3000) 3000 (headC (tailC (tailC (tailC (tailC (tailC (tailC (tailC (tailC (tailC (bodyOf Tryz.f6))))))))))) (Snap.toFr snap8) (Snap.toHp snap8)) = some snap9 := by kernel_rfl

end Go.Proofs.YtnddlpfmagdbfaaGreat
