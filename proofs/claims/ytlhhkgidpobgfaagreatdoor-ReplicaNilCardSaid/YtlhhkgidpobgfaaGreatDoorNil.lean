/- The evaluator says true of the law ReplicaNil: for any slice and any number. -/
import Derived.Test.YtlhhkgidpobgfaaGreatDoorKn
import Derived.KernelRfl
set_option linter.unusedVariables false
namespace Go.Proofs.YtlhhkgidpobgfaaGreatDoor
open Go Go.Ev Go.Proofs Go.RowKit
set_option maxRecDepth 100000

/-- What is known of the self-test. -/
noncomputable def extK : Ext := fun f => bif Nat.beq f 10 then some (trueOf gl) else none
theorem extK_ok : ExtOK Tryz.prog extK := by
  intro f g hg
  unfold extK at hg
  cases hf : Nat.beq f 10 with
  | false => rw [hf] at hg; cases hg
  | true =>
    rw [hf] at hg
    cases hg
    have := Nat.eq_of_beq_eq_true hf
    subst this
    exact trueOf_ok Tryz.func10 (c := bodyOf Tryz.f10) (by kernel_rfl) (by kernel_rfl) known_calls
/-- The evaluator says true. -/
def Says (l : Value) : Prop := ∀ n : Int, isTrue (evCall Tryz.prog extK 3000 (.func 9) [l, .int .i64 n] ⟨mkT (blksOf gl ++ []), 65, 64⟩) = true
/-- A slice of the caller's. -/
def sl (n : Nat) : Value := .slice (some ⟨64, 0, some 0⟩) n OPEN
theorem says_nil : Says (.slice none 0 0) := fun n => by kernel_rfl
theorem says_0 : Says (sl 0) := fun n => by kernel_rfl
theorem says_1 : Says (sl 1) := fun n => by kernel_rfl
theorem says_2 : Says (sl 2) := fun n => by kernel_rfl
theorem says_3 : Says (sl 3) := fun n => by kernel_rfl
theorem says_4 : Says (sl 4) := fun n => by kernel_rfl
theorem says_5 : Says (sl 5) := fun n => by kernel_rfl
theorem says_6 : Says (sl 6) := fun n => by kernel_rfl
theorem says_more (k : Nat) : Says (sl (k + 7)) := fun n => by kernel_rfl
theorem says_all (n : Nat) : Says (sl n) := by
  rcases Nat.lt_or_ge n 7 with h | h
  · have hk : n = 0 ∨ n = 1 ∨ n = 2 ∨ n = 3 ∨ n = 4 ∨ n = 5 ∨ n = 6 := by omega
    rcases hk with rfl | rfl | rfl | rfl | rfl | rfl | rfl
    · exact says_0
    · exact says_1
    · exact says_2
    · exact says_3
    · exact says_4
    · exact says_5
    · exact says_6
  · obtain ⟨j, rfl⟩ : ∃ j, n = j + 7 := ⟨n - 7, by omega⟩
    exact says_more j

/-- The law ReplicaNil. -/
theorem nil_walk (a : Option Addr) (n cap : Nat) (h : ∀ x, a = some x → x.spot = none) (h0 : a = none → n = 0 ∧ cap = 0) (k : Int) (w : World) :
    Calls Tryz.prog 9 #[.slice a n cap, .int .i64 k] w fun e w' => e = .returned (.bool true) ∧ Below w.heap.size w w' := by
  have hg : laidG w gl := by intro x hx; cases hx
  cases a with
  | none =>
    obtain ⟨rfl, rfl⟩ := h0 rfl
    exact law_at gl_plain (evCall_ok mixed extK_ok 3000) (e := env0) (args := [.slice none 0 0, .int .i64 k]) (m := 65) (fun _ _ => rfl) (by decide) (RL.cons (plain_ok rfl _ _) (RL.cons (plain_ok rfl _ _) RL.nil)) (says_nil k) w hg
  | some x =>
    exact law_at gl_plain (evCall_ok mixed extK_ok 3000) (args := [sl n, .int .i64 k]) (m := 65) (fix64 x cap) (by decide) (RL.cons (RV.slice64 x (h x rfl) n cap (by decide)) (RL.cons (plain_ok rfl _ _) RL.nil)) (says_all n k) w hg

end Go.Proofs.YtlhhkgidpobgfaaGreatDoor
