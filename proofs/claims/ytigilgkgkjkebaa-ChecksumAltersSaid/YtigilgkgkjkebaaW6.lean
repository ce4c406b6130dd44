/- Contract: flip inverts a bit of some bytes. -/
import Derived.Test.YtigilgkgkjkebaaGoCombines
import Derived.Test.YtigilgkgkjkebaaFlip
import Derived.RegionTactic
import Derived.ChangeAlike
namespace Go.Proofs.Ytigilgkgkjkebaa
open Go.RowKit
set_option linter.unusedVariables false
set_option linter.unusedSimpArgs false

/-- Block g begins with the bytes l, and may be written there. -/
structure Row8 (W : World) (g : Nat) (l : List UInt8) : Prop where
  cell : ∀ i, i < l.length → W.cell? ⟨g, i, none⟩ = some (.int .u8 (l.getD i 0).toNat)
  free : ∀ i, i < l.length → W.frozen? ⟨g, i, none⟩ = false

/-- Block g alone may have turned. -/
structure But (W W' : World) (g : Nat) : Prop where
  os : W'.os = W.os
  tape : W'.tape = W.tape
  output : W'.output = W.output
  size : W'.heap.size = W.heap.size
  block : ∀ k, k ≠ g → W'.heap[k]? = W.heap[k]?
theorem But.refl (W : World) (g : Nat) : But W W g := ⟨rfl, rfl, rfl, rfl, fun _ _ => rfl⟩
theorem But.set (W : World) (g i : Nat) (v : Value) : But W (W.setCell ⟨g, i, none⟩ v).drew g :=
  ⟨rfl, rfl, rfl, by simp [World.setCell], fun k hk => Below.heap_setCell W _ _ _ hk⟩
theorem But.below {W W' : World} {g B : Nat} (h : But W W' g) (hB : B ≤ g) : Below B W W' := ⟨h.os, h.tape, h.output, Nat.le_of_eq h.size.symm, fun k hk => h.block k (by omega)⟩
theorem But.cell {W W' : World} {g : Nat} (h : But W W' g) {b i : Nat} (hb : b ≠ g) : W'.cell? ⟨b, i, none⟩ = W.cell? ⟨b, i, none⟩ := World.cell?_of_block (w := W) (h.block b hb)
theorem But.frozen {W W' : World} {g : Nat} (h : But W W' g) {b i : Nat} (hb : b ≠ g) : W'.frozen? ⟨b, i, none⟩ = W.frozen? ⟨b, i, none⟩ := World.frozen?_of_block (w := W) (h.block b hb)
theorem Row8.other {W W' : World} {g b : Nat} {l : List UInt8} (h : Row8 W b l) (hb : b ≠ g) (k : But W W' g) : Row8 W' b l :=
  ⟨fun i hi => (k.cell hb).trans (h.cell i hi), fun i hi => (k.frozen hb).trans (h.free i hi)⟩

theorem Row8.set {W : World} {g : Nat} {l : List UInt8} (h : Row8 W g l) (k : Nat) (hk : k < l.length) (b : UInt8) (v : Value) (hv : v = .int .u8 b.toNat) : Row8 (W.setCell ⟨g, k, none⟩ v) g (l.set k b) := by
  subst hv
  refine ⟨fun i hi => ?_, fun i hi => by rw [World.frozen?_setCell]; exact h.free i (by simpa using hi)⟩
  rw [List.length_set] at hi
  by_cases e : k = i
  · subst e
    rw [World.cell?_setCell_same _ _ _ (h.cell k hk)]
    simp [List.getD_eq_getElem?_getD, hk]
  · rw [World.cell?_setCell_other _ _ _ _ (fun h' => e (congrArg Addr.off h')), h.cell i hi]
    simp [List.getD_eq_getElem?_getD, List.getElem?_set_ne e]

theorem xor8 (a b : UInt8) : Go.bits .xor .u8 (a.toNat : Int) (b.toNat : Int) = ((a ^^^ b).toNat : Int) := by
  have ha : a.toNat % 256 = a.toNat := Nat.mod_eq_of_lt a.toNat_lt
  have hb : b.toNat % 256 = b.toNat := Nat.mod_eq_of_lt b.toNat_lt
  have h2 : a.toNat ^^^ b.toNat < 256 := Nat.xor_lt_two_pow (n := 8) a.toNat_lt b.toNat_lt
  have e : (BitVec.ofNat 8 a.toNat ^^^ BitVec.ofNat 8 b.toNat).toNat = a.toNat ^^^ b.toNat := by rw [BitVec.toNat_xor, BitVec.toNat_ofNat, BitVec.toNat_ofNat]; simp only [Nat.reducePow, ha, hb]
  show IntKind.u8.wrap (((BitVec.ofInt 8 (a.toNat : Int) ^^^ BitVec.ofInt 8 (b.toNat : Int)).toNat : Nat) : Int) = _
  rw [BitVec.ofInt_natCast, BitVec.ofInt_natCast, e, UInt8.toNat_xor]
  exact wraps_u8 ((a.toNat ^^^ b.toNat : Nat) : Int) (by omega) (by omega)
theorem Row8.drew {W : World} {g : Nat} {l : List UInt8} (h : Row8 W g l) : Row8 W.drew g l := ⟨h.cell, h.free⟩

theorem flip_value (a : UInt8) (k : Nat) (hk : k < 8) : Go.bits .xor .u8 (a.toNat : Int) (2 ^ k % 256) = ((a ^^^ UInt8.ofNat (2 ^ k)).toNat : Int) := by
  rw [← xor8]
  congr 1

theorem flip_any (g cap n : Nat) (l : List UInt8) (p : Nat) (hn : n = l.length) (hl : l.length ≤ 500) (hp : p ≤ 100000) (W : World) (h : Row8 W g l) :
    Calls Try.prog 23 #[.slice (some ⟨g, 0, none⟩) n cap, .int .i64 p] W fun e w' => e = .returned (.tuple #[]) ∧ Row8 w' g (Crc.fl l p) ∧ But W w' g := by
  subst hn
  by_cases hc : p / 8 < l.length
  · have hcell := h.cell (p / 8) hc
    have hfree := h.free (p / 8) hc
    have H := Lib.hid h
    clear h
    go_enter Try.func23, Try.ntmps23
    go_wp2
    go_region
    go_end0
    refine ⟨rfl, ?_⟩
    have e : Crc.fl l p = l.set (p / 8) (l[p / 8] ^^^ UInt8.ofNat (2 ^ (p % 8))) := by
      unfold Crc.fl; rw [if_pos hc, List.getD_eq_getElem?_getD, List.getElem?_eq_getElem hc]; rfl
    rw [e]
    exact ⟨(H.out.set (p / 8) hc _ _ (congrArg _ (flip_value _ _ (by omega)))).drew, But.set W g (p / 8) _⟩
  · have H := Lib.hid h
    clear h
    go_enter Try.func23, Try.ntmps23
    go_wp2
    go_end0
    have e : Crc.fl l p = l := by unfold Crc.fl; rw [if_neg hc]
    rw [e]
    exact ⟨rfl, H.out, But.refl _ _⟩

end Go.Proofs.Ytigilgkgkjkebaa
