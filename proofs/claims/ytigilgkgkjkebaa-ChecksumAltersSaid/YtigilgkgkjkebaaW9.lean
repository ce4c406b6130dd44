/- Contracts: few, Chain and Verify. -/
import Derived.Test.YtigilgkgkjkebaaW8
namespace Go.Proofs.Ytigilgkgkjkebaa
open Go.RowKit Go.Proofs.YtigilgkgkjkebaaW.PrintWords PChecksumChains
set_option linter.unusedVariables false
set_option linter.unusedSimpArgs false

/-- The link of a record behind a link. -/
def lk (p : BitVec 32) (s : ByteArray) : BitVec 32 := Crc.extend (Crc.sum (le p.toNat 4 ++ le s.size 8)) s.data.toList
/-- Record i; link i. -/
def gs (l : List ByteArray) (i : Nat) : ByteArray := l.getD i ByteArray.empty
def gu (l : List (BitVec 32)) (i : Nat) : BitVec 32 := l.getD i 0#32
/-- The link of record i - 1 in the chain of l; 0 for i = 0. -/
def lnk (l : List ByteArray) (i : Nat) : BitVec 32 := (l.take i).foldl lk 0#32
def chainTo (l : List ByteArray) (k : Nat) : List Int := (List.range k).map fun i => n32 (lnk l (i + 1))
theorem lnk_succ (l : List ByteArray) (k : Nat) (h : k < l.length) : lnk l (k + 1) = lk (lnk l k) (gs l k) := by
  unfold lnk gs
  rw [List.take_succ_eq_append_getElem h, List.foldl_append, List.getD_eq_getElem?_getD, List.getElem?_eq_getElem h]
  rfl
theorem chainTo_succ (l : List ByteArray) (k : Nat) : chainTo l (k + 1) = chainTo l k ++ [n32 (lnk l (k + 1))] := by unfold chainTo; rw [List.range_succ, List.map_append]; rfl
theorem chainTo_length (l : List ByteArray) (k : Nat) : (chainTo l k).length = k := by simp [chainTo]

/-- What is read: strings, numbers. -/
def RdS (w : World) (A : Option Addr) (l : List ByteArray) : Prop := ∀ i, i < l.length → ∃ ad, A = some ad ∧ w.cell? (ad.add i) = some (.string (gs l i))
def RdU (w : World) (A : Option Addr) (l : List (BitVec 32)) : Prop := ∀ i, i < l.length → ∃ ad, A = some ad ∧ w.cell? (ad.add i) = some (.int .u32 (n32 (gu l i)))
theorem RdS.below {w w' : World} {A : Option Addr} {l : List ByteArray} (h : RdS w A l) (hb : Below w.heap.size w w') : RdS w' A l := fun i hi => by
  obtain ⟨ad, e, hc⟩ := h i hi
  exact ⟨ad, e, (hb.cell (World.block_lt_of_cell? w _ hc)).trans hc⟩
theorem RdU.below {w w' : World} {A : Option Addr} {l : List (BitVec 32)} (h : RdU w A l) (hb : Below w.heap.size w w') : RdU w' A l := fun i hi => by
  obtain ⟨ad, e, hc⟩ := h i hi
  exact ⟨ad, e, (hb.cell (World.block_lt_of_cell? w _ hc)).trans hc⟩

/-! ### few -/
def cut (s : ByteArray) : ByteArray := s.extract 0 (min s.size 40)
def fewL (l : List ByteArray) : List ByteArray := (l.take 8).map cut
theorem few_l0 (l : List ByteArray) (hl : l.length ≤ 9223372036854775807) : ∀ (d i k : Nat), i + d = min l.length 8 → d < k →
    sleuthlaw04_few.l0 k l ((l.take i).map cut) (i : Int) = some (fewL l) := by
  intro d
  induction d with
  | zero =>
    intro i k hi hk
    obtain ⟨k, rfl⟩ : ∃ m, k = m + 1 := ⟨k - 1, by omega⟩
    have e : (l.take i).map cut = fewL l := by
      unfold fewL
      congr 1
      rcases Nat.le_total l.length 8 with h | h
      · rw [List.take_of_length_le (by omega), List.take_of_length_le (by omega)]
      · rw [show i = 8 by omega]
    simp only [sleuthlaw04_few.l0]
    rw [e]
    by_cases h1 : (i : Int) < (l.length : Int)
    · rw [if_pos h1, if_neg (by omega)]
    · rw [if_neg h1]
  | succ d ih =>
    intro i k hi hk
    obtain ⟨k, rfl⟩ : ∃ m, k = m + 1 := ⟨k - 1, by omega⟩
    have hil : i < l.length := by omega
    have hd : rdOf ByteArray.empty l (i : Int) = l[i] := by simp [rdOf, List.getD_eq_getElem?_getD, hil]
    have hm : mn ((rdOf ByteArray.empty l (i : Int)).size : Int) 40 = ((min (rdOf ByteArray.empty l (i : Int)).size 40 : Nat) : Int) := by unfold mn; split <;> omega
    have e3 : wrap64 ((i : Int) + 1) = ((i + 1 : Nat) : Int) := by unfold wrap64; omega
    simp only [sleuthlaw04_few.l0]
    rw [if_pos (by omega), if_pos (by omega), if_pos (by omega), hm, if_pos (by omega), if_pos (by omega), if_pos (by simp; omega), e3]
    rw [← ih (i + 1) k (by omega) (by omega)]
    congr 1
    rw [List.take_succ_eq_append_getElem hil, List.map_append]
    congr 1
    simp [cut, hd]

theorem few_any (A : Option Addr) (c : Nat) (l : List ByteArray) (hl : l.length ≤ 9223372036854775807) (w : World) (hr : Kd.C Kd.string w A l.length l) (hc : l.length ≤ c) :
    Calls Try.prog 27 #[.slice A l.length c] w fun e w' => ∃ A' c', e = .returned (.slice A' (fewL l).length c') ∧ RdS w' A' (fewL l) ∧ Below w.heap.size w w' := by
  refine (sleuthlaw04_few.calls (min l.length 8 + 1) A c l (fewL l) w hr hc ?_).mono ?_
  · have := few_l0 l hl (min l.length 8) 0 (min l.length 8 + 1) (by omega) (by omega)
    exact this
  · rintro e w' ⟨v, rfl, hR, hb⟩
    obtain ⟨A', c', rfl, hcc, hC⟩ := Kd.R_reads hR
    refine ⟨A', c', rfl, fun i hi => ?_, hb⟩
    obtain ⟨ad, e, hcell⟩ := Kd.at_string hC (i : Int) (by omega) (by omega)
    exact ⟨ad, e, by simpa [rdOf, gs] using hcell⟩

end Go.Proofs.Ytigilgkgkjkebaa
