/- Contracts: the methods of a nil keeper. -/
import Derived.Test.YtmhmnbaoanennaaGreatDoorShort
namespace Go.Proofs.YtmhmnbaoanennaaGreatDoor
open Go Go.Ev Go.Proofs Go.RowKit
set_option linter.unusedVariables false
set_option linter.unusedSimpArgs false
set_option maxRecDepth 100000
/-- What a call gives, at plain arguments. -/
theorem val_at {P : Program} {ext : Ext} {n : Nat} {f : FuncId} {args : List Value} {v : Value} (hc : CallOK P (evCall P ext n)) (ha : ∀ v ∈ args, plain v = true)
    (he : (evCall P ext n (.func f) args ⟨mkT (blksOf (fun _ => 0) [] ++ []), 64, 64⟩).map (·.1) = some v) (hv : ∀ e, conc e v = v) (w : World) :
    Calls P f args.toArray w fun en w' => en = .returned v ∧ Below w.heap.size w w' := by
  cases hr : evCall P ext n (.func f) args ⟨mkT (blksOf (fun _ => 0) [] ++ []), 64, 64⟩ with
  | none => rw [hr] at he; cases he
  | some p =>
    obtain ⟨u, h'⟩ := p
    rw [hr] at he
    cases he
    have hl : laidG w (fun _ => 0) [] := fun x hx => by cases hx
    have r0 : Rel P ⟨mkT (blksOf (fun _ => 0) [] ++ []), 64, 64⟩ env0 w := laidG_rel rfl hl (fun _ _ => rfl) (Nat.le_refl _)
    refine Calls.mono ((hc.func _ _ _ _ _ hr).2 env0 w args r0 ⟨fun v hv => (plain_ok (ha v hv) _ env0).under, (List.map_id' args).symm.trans (List.map_congr_left fun v hv => (plain_ok (ha v hv) 0 env0).eq)⟩) ?_
    rintro en w' ⟨e', v', rfl, r, s, hv'⟩
    exact ⟨by rw [hv'.eq, hv], laidG_below (ty := fun _ => 0) (g := []) rfl hl (fun _ _ => rfl) r s⟩
theorem one_plain {v : Value} (h : plain v = true) : ∀ u ∈ [v], plain u = true := fun u hu => by
  have : u = v := by simpa using hu
  rw [this]; exact h
theorem two_plain {v v' : Value} (h : plain v = true) (h' : plain v' = true) : ∀ u ∈ [v, v'], plain u = true := fun u hu => by
  have : u = v ∨ u = v' := by simpa using hu
  rcases this with rfl | rfl
  · exact h
  · exact h'
theorem okN : CallOK Tryz.prog (evCall Tryz.prog noExt 100) := evCall_ok mixed noExt_ok 100
theorem apply_nil (n : Int) (w : World) : Calls Tryz.prog 23 #[.pointer none, .int .i64 n] w fun e w' => e = .returned (.tuple #[.int .i64 0, .int .i64 1]) ∧ Below w.heap.size w w' :=
  val_at (args := [.pointer none, .int .i64 n]) okN (two_plain rfl rfl) (by kernel_rfl) (fun e => by simp [conc, concA, concL]) w
theorem retained_nil (w : World) : Calls Tryz.prog 32 #[.pointer none, .slice none 0 0] w fun e w' => e = .returned (.agg #[.slice none 0 0, .slice none 0 0, .slice none 0 0, .slice none 0 0]) ∧ Below w.heap.size w w' :=
  val_at (args := [.pointer none, .slice none 0 0]) okN (two_plain rfl rfl) (by kernel_rfl) (fun e => by simp [conc, concA, concL, cCap]) w
theorem now_nil (w : World) : Calls Tryz.prog 45 #[.pointer none] w fun e w' => e = .returned (.int .i64 0) ∧ Below w.heap.size w w' :=
  val_at (args := [.pointer none]) okN (one_plain rfl) (by kernel_rfl) (fun e => by simp [conc]) w
theorem traces_nil (w : World) : Calls Tryz.prog 25 #[.pointer none] w fun e w' => e = .returned (.slice none 0 0) ∧ Below w.heap.size w w' :=
  val_at (args := [.pointer none]) okN (one_plain rfl) (by kernel_rfl) (fun e => by simp [conc, cCap]) w
theorem records_nil (w : World) : Calls Tryz.prog 39 #[.pointer none] w fun e w' => e = .returned (.slice none 0 0) ∧ Below w.heap.size w w' :=
  val_at (args := [.pointer none]) okN (one_plain rfl) (by kernel_rfl) (fun e => by simp [conc, cCap]) w
theorem removed_nil (w : World) : Calls Tryz.prog 26 #[.pointer none] w fun e w' => e = .returned (.slice none 0 0) ∧ Below w.heap.size w w' :=
  val_at (args := [.pointer none]) okN (one_plain rfl) (by kernel_rfl) (fun e => by simp [conc, cCap]) w
theorem late_nil (w : World) : Calls Tryz.prog 27 #[.pointer none] w fun e w' => e = .returned (.slice none 0 0) ∧ Below w.heap.size w w' :=
  val_at (args := [.pointer none]) okN (one_plain rfl) (by kernel_rfl) (fun e => by simp [conc, cCap]) w
theorem has_nil (n : Int) (w : World) : Calls Tryz.prog 24 #[.pointer none, .int .i64 n] w fun e w' => e = .returned (.bool false) ∧ Below w.heap.size w w' :=
  val_at (args := [.pointer none, .int .i64 n]) okN (two_plain rfl rfl) (by kernel_rfl) (fun e => by simp [conc]) w
theorem clone_nil (w : World) : Calls Tryz.prog 41 #[.pointer none] w fun e w' => e = .returned (.pointer none) ∧ Below w.heap.size w w' :=
  val_at (args := [.pointer none]) okN (one_plain rfl) (by kernel_rfl) (fun e => by simp [conc]) w
theorem equal_nil (w : World) : Calls Tryz.prog 37 #[.pointer none, .pointer none] w fun e w' => e = .returned (.bool true) ∧ Below w.heap.size w w' :=
  val_at (args := [.pointer none, .pointer none]) okN (two_plain rfl rfl) (by kernel_rfl) (fun e => by simp [conc]) w
theorem add_nil (a : Option Addr) (n c : Nat) (w : World) : Calls Tryz.prog 22 #[.pointer none, .slice a n c] w fun e w' => e = .returned (.tuple #[.int .i64 0, .int .i64 1]) ∧ Below w.heap.size w w' := by
  go_enter Tryz.func22, Tryz.ntmps22
  go_wp2_with fail
  go_ret2
  exact ⟨rfl, Below.refl _ _⟩
end Go.Proofs.YtmhmnbaoanennaaGreatDoor
