/- Arguments opened: a slice of strings, a slice of words of 32 bits. No conditions. -/
import Derived.Test.YtigilgkgkjkebaaOpen
import Derived.Test.YtigilgkgkjkebaaW9
import Derived.SliceStrings
namespace Go.Proofs.Ytigilgkgkjkebaa
open Go.ChangeShapes Go.WideShapes Go.RowKit Go.Proofs.YtigilgkgkjkebaaW.PrintWords
section
variable {H : Type} {enc : TypeId × Value → H} {P : Program} {w : World} {base : Nat} {held : Bool}

theorem open_strs {r : Reach} {b0 : Nat} {t e : TypeId} {v : Value} {d : DataW H} {ps : List MemPlace} (ht : P.underlying t = some (.slice e)) (he : P.underlying e = some .string) (hc : P.cellsOf e = 1)
    (hv : Value.okWide P w r b0 t v) (h : DataW.Trod enc P w base (fun _ => true) held t v d ps) :
    ∃ (A : Option Addr) (c : Nat) (l : List ByteArray), v = .slice A l.length c ∧ l.length ≤ c ∧ l.length ≤ maxLen ∧ Kd.C Kd.string w A l.length l := by
  obtain ⟨A, len, cap, rfl⟩ := okWide_slice ht hv
  obtain ⟨fuel, hf⟩ := h
  rcases open_strings ht he hc hf with ⟨hcs, _⟩ | ⟨x, n, c, ss, hcs, _, hl, hm, hz, _, hcell, _⟩
  · simp [Value.cells] at hcs
    obtain ⟨rfl, rfl, rfl⟩ := hcs
    exact ⟨none, 0, [], rfl, by simp, by simp, Kd.C_of_reads (d := ByteArray.empty) (h1 := fun _ => rfl) ⟨rfl, by simp, fun hn => by simp at hn⟩⟩
  · simp [Value.cells] at hcs
    obtain ⟨rfl, rfl, rfl⟩ := hcs
    rw [if_pos rfl] at hz
    have e1 : (ss.take len).length = len := by rw [List.length_take]; omega
    refine ⟨some x, cap, ss.take len, by rw [e1], by omega, by omega, ?_⟩
    rw [e1]
    refine Kd.C_of_reads (d := ByteArray.empty) (h1 := fun _ => rfl) ⟨e1, by unfold maxLen at hm; omega, fun hn => ⟨x, rfl, fun j hj => ?_⟩⟩
    rw [hcell j (by omega)]
    simp [List.getD_eq_getElem?_getD, List.getElem?_take_of_lt hj]

theorem open_u32s {r : Reach} {b0 : Nat} {t e : TypeId} {v : Value} {d : DataW H} {ps : List MemPlace} (ht : P.underlying t = some (.slice e)) (he : P.underlying e = some (.int .u32)) (hc : P.cellsOf e = 1)
    (hv : Value.okWide P w r b0 t v) (h : DataW.Trod enc P w base (fun _ => true) held t v d ps) :
    ∃ (A : Option Addr) (c : Nat) (u : List (BitVec 32)), v = .slice A u.length c ∧ u.length ≤ c ∧ u.length ≤ maxLen ∧ RdU w A u := by
  obtain ⟨A, len, cap, rfl⟩ := okWide_slice ht hv
  obtain ⟨fuel, hf⟩ := h
  rcases open_ints ht he hc hf with ⟨hcs, _⟩ | ⟨x, n, c, zs, hcs, _, hl, hm, hz, _, hcell, hwf⟩
  · simp [Value.cells] at hcs
    obtain ⟨rfl, rfl, rfl⟩ := hcs
    exact ⟨none, 0, [], rfl, by simp, by simp, fun i hi => by simp at hi⟩
  · simp [Value.cells] at hcs
    obtain ⟨rfl, rfl, rfl⟩ := hcs
    rw [if_pos rfl] at hz
    have e1 : (zs.take len).length = len := by rw [List.length_take]; omega
    have e2 : ((zs.take len).map fun z => BitVec.ofNat 32 z.toNat).length = len := by rw [List.length_map, e1]
    refine ⟨some x, cap, (zs.take len).map fun z => BitVec.ofNat 32 z.toNat, by rw [e2], by omega, by omega, fun i hi => ⟨x, rfl, ?_⟩⟩
    rw [e2] at hi
    rw [hcell i (by omega)]
    have hw := hwf _ (List.getElem_mem (by omega : i < zs.length))
    have e3 : gu ((zs.take len).map fun z => BitVec.ofNat 32 z.toNat) i = BitVec.ofNat 32 (zs[i]'(by omega)).toNat := by
      unfold gu
      rw [List.getD_eq_getElem?_getD, List.getElem?_map, List.getElem?_take_of_lt hi, List.getElem?_eq_getElem (by omega)]
      rfl
    rw [e3, ← n32_of (by simp [Lit.wf, IntKind.min, IntKind.max, IntKind.signed, IntKind.bits] at hw; omega) (by simp [Lit.wf, IntKind.min, IntKind.max, IntKind.signed, IntKind.bits] at hw; omega)]
    rw [List.getD_eq_getElem?_getD, List.getElem?_eq_getElem (by omega)]
    rfl
end
end Go.Proofs.Ytigilgkgkjkebaa
