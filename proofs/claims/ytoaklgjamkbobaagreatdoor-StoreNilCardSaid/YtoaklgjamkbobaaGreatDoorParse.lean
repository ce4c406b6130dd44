/- Contract: the number of a segment's name. -/
import Derived.Test.YtoaklgjamkbobaaGreatDoorExt
import Derived.Lib.ConvBytes
import Derived.Below
import Derived.Lib.Hide
set_option linter.unusedVariables false
set_option linter.unusedSimpArgs false
namespace Go.Proofs.YtoaklgjamkbobaaGreatDoor
open Go Go.Ev Go.Proofs Go.RowKit
set_option maxRecDepth 100000
theorem mixed : Tryz.prog.follows .mixedOrders = true := by kernel_rfl
/-- What a call gives, at plain arguments. -/
theorem val_at {P : Program} {ext : Ext} {n : Nat} {f : FuncId} {args : List Value} {v : Value} (hc : CallOK P (evCall P ext n)) (ha : ∀ v ∈ args, plain v = true)
    (he : (evCall P ext n (.func f) args ⟨mkT (blksOf (fun _ => 0) [] ++ []), 64, 64⟩).map (·.1) = some v) (hv : ∀ e, conc e v = v) (w : World) :
    Calls P f args.toArray w fun en w' => en = .returned v ∧ Below w.heap.size w w' := by
  cases hr : evCall P ext n (.func f) args ⟨mkT (blksOf (fun _ => 0) [] ++ []), 64, 64⟩ with
  | none => rw [hr] at he; cases he
  | some p =>
    obtain ⟨u, h'⟩ := p
    rw [hr] at he
    cases he
    have hl : laidG w (fun _ => 0) [] := fun x hx => by cases hx
    have r0 : Rel P ⟨mkT (blksOf (fun _ => 0) [] ++ []), 64, 64⟩ env0 w := laidG_rel rfl hl (fun _ _ => rfl) (Nat.le_refl _)
    refine Calls.mono ((hc.func _ _ _ _ _ hr).2 env0 w args r0 ⟨fun v hv => (plain_ok (ha v hv) _ env0).under, (List.map_id' args).symm.trans (List.map_congr_left fun v hv => (plain_ok (ha v hv) 0 env0).eq)⟩) ?_
    rintro en w' ⟨e', v', rfl, r, s, hv'⟩
    exact ⟨by rw [hv'.eq, hv], laidG_below (ty := fun _ => 0) (g := []) rfl hl (fun _ _ => rfl) r s⟩
def sSpans : ByteArray := ⟨#[115, 112, 97, 110, 115]⟩
def sDot : ByteArray := ⟨#[115, 112, 97, 110, 115, 46]⟩
def sFile : ByteArray := ⟨#[115, 112, 97, 110, 115, 46, 48, 48, 48, 48, 48, 49]⟩
def sRest : ByteArray := ⟨#[48, 48, 48, 48, 48, 49]⟩
theorem cut_any (p : ByteArray) (hp : p = sDot) (w : World) : Calls Tryz.prog 135 #[.string sFile, .string p] w fun e w' => e = .returned (.tuple #[.string sRest, .bool true]) ∧ Below w.heap.size w w' := by
  subst hp
  exact val_at (P := Tryz.prog) (args := [.string sFile, .string sDot]) (evCall_ok mixed noExt_ok 3000) (fun v hv => by simp at hv; rcases hv with rfl | rfl <;> rfl) (by kernel_rfl) (fun e => by simp [conc, concA, concL]) w
theorem parse_any (a : Addr) (w : World) (h : w.cell? ⟨a.block, a.off + 1, none⟩ = some (.string sSpans)) :
    Calls Tryz.prog 61 #[.pointer (some a), .string sFile] w fun e w' => e = .returned (.tuple #[.int .i64 1, .bool true]) ∧ Below w.heap.size w w' := by
  have hcv : ∀ (w : World) (s : ByteArray), (convert 9 201 (.string s)).run Tryz.prog w = .ok (.slice (some ⟨w.heap.size, 0, none⟩) s.size (grownCap w s.size 0 5)) (Lib.bytesWorld w 5 s) := fun w s => Lib.run_convert_string_bytes w 9 201 5 s Tryz.underlying9 Tryz.underlying201 Tryz.underlying5
  have hsz : sRest.size = 6 := rfl
  go_enter Tryz.func61, Tryz.ntmps61
  go_wp2_with (first
    | (go_at_call 135; (with_reducible refine (cut_any _ (by kernel_rfl) _).mono ?_); rintro e w' ⟨rfl, hbb⟩))
  have HB := Lib.hid hbb
  clear hbb hcv h
  have hc : ∀ j (hj : j < 6), (Lib.bytesWorld w' 5 sRest).cell? ⟨w'.heap.size, j, none⟩ = some (.int .u8 (if j = 5 then 49 else 48)) := by
    intro j hj
    rw [Lib.bytesWorld_cell w' 5 sRest j (by rw [hsz]; exact hj)]
    obtain rfl | rfl | rfl | rfl | rfl | rfl : j = 0 ∨ j = 1 ∨ j = 2 ∨ j = 3 ∨ j = 4 ∨ j = 5 := by omega
    all_goals rfl
  have HC := Lib.hid hc
  clear hc
  have HW : Hid (Below w.heap.size w (Lib.bytesWorld w' 5 sRest)) := by
    refine Lib.hid (HB.out.trans ⟨rfl, rfl, rfl, by rw [Lib.bytesWorld_size]; have := HB.out.size; omega, fun b hb => Lib.bytesWorld_at_old w' 5 sRest b (Nat.lt_of_lt_of_le hb HB.out.size)⟩)
  have hlen : (sRest.size : Int) = 6 := rfl
  generalize hww : Lib.bytesWorld w' 5 sRest = W at HW HC ⊢
  go_loopw [8, 10, 31] (fun n c i wr => ∃ j : Nat, j ≤ 6 ∧ i = .int .i64 j ∧ n = .int .i64 (if j = 6 then 1 else 0) ∧ wr = W) (fun _ _ i _ => 6 - (intOf i).toNat)
  case atStart => exact ⟨0, by omega, rfl, rfl, rfl⟩
  case round =>
    obtain ⟨j, hj, rfl, rfl, rfl⟩ := hrel
    obtain rfl | rfl | rfl | rfl | rfl | rfl | rfl : j = 0 ∨ j = 1 ∨ j = 2 ∨ j = 3 ∨ j = 4 ∨ j = 5 ∨ j = 6 := by omega
    · have q := HC.out 0 (by decide)
      simp at q
      go_wp2_with fail
      exact ⟨⟨1, by omega, rfl, rfl, trivial⟩, by simp [intOf]⟩
    · have q := HC.out 1 (by decide)
      simp at q
      go_wp2_with fail
      exact ⟨⟨2, by omega, rfl, rfl, trivial⟩, by simp [intOf]⟩
    · have q := HC.out 2 (by decide)
      simp at q
      go_wp2_with fail
      exact ⟨⟨3, by omega, rfl, rfl, trivial⟩, by simp [intOf]⟩
    · have q := HC.out 3 (by decide)
      simp at q
      go_wp2_with fail
      exact ⟨⟨4, by omega, rfl, rfl, trivial⟩, by simp [intOf]⟩
    · have q := HC.out 4 (by decide)
      simp at q
      go_wp2_with fail
      exact ⟨⟨5, by omega, rfl, rfl, trivial⟩, by simp [intOf]⟩
    · have q := HC.out 5 (by decide)
      simp at q
      go_wp2_with fail
      exact ⟨⟨6, by omega, rfl, rfl, trivial⟩, by simp [intOf]⟩
    · go_wp2_with fail
      go_ret2
      exact ⟨rfl, HW.out⟩
end Go.Proofs.YtoaklgjamkbobaaGreatDoor
