/- The plain laws of the chain: a changed byte changes its link, and all links behind it. -/
import Derived.Test.YtigilgkgkjkebaaGoChains
import Derived.Test.YtigilgkgkjkebaaFlip
namespace Go.Proofs.Ytigilgkgkjkebaa
set_option linter.unusedVariables false

def head (p : BitVec 32) (n : Nat) (s : List UInt8) : List UInt8 := le p.toNat 4 ++ le n 8 ++ s
theorem lk_sum (p : BitVec 32) (s : ByteArray) : lk p s = Crc.sum (head p s.size s.data.toList) := by
  unfold lk head; rw [Crc.extend_sum]
theorem le_get (n c i : Nat) (h : i < c) : (le n c).getD i 0 = UInt8.ofNat (n / 2 ^ (8 * i) % 256) := by
  simp [le, List.getD_eq_getElem?_getD, h]
theorem byte_inj (a b : Nat) (ha : a < 256) (hb : b < 256) (h : UInt8.ofNat a = UInt8.ofNat b) : a = b := by
  have := congrArg UInt8.toNat h
  simpa [Nat.mod_eq_of_lt ha, Nat.mod_eq_of_lt hb] using this
theorem le_inj (a b : Nat) (ha : a < 4294967296) (hb : b < 4294967296) (h : le a 4 = le b 4) : a = b := by
  have e : ∀ i, i < 4 → a / 2 ^ (8 * i) % 256 = b / 2 ^ (8 * i) % 256 := fun i hi => by
    apply byte_inj _ _ (Nat.mod_lt _ (by omega)) (Nat.mod_lt _ (by omega))
    rw [← le_get a 4 i hi, ← le_get b 4 i hi, h]
  have e0 := e 0 (by omega)
  have e1 := e 1 (by omega)
  have e2 := e 2 (by omega)
  have e3 := e 3 (by omega)
  simp only [Nat.reduceMul, Nat.reducePow] at e0 e1 e2 e3
  omega
theorem bitAt_of {s t : List UInt8} {p : Nat} (h : s.getD (p / 8) 0 = t.getD (p / 8) 0) : Crc.bitAt s p = Crc.bitAt t p := by unfold Crc.bitAt; rw [h]

theorem getD_right (a b : List UInt8) (i : Nat) (h : a.length ≤ i) : (a ++ b).getD i 0 = b.getD (i - a.length) 0 := by
  rw [List.getD_eq_getElem?_getD, List.getD_eq_getElem?_getD, List.getElem?_append_right h]
theorem getD_left (a b : List UInt8) (i : Nat) (h : i < a.length) : (a ++ b).getD i 0 = a.getD i 0 := by
  rw [List.getD_eq_getElem?_getD, List.getD_eq_getElem?_getD, List.getElem?_append_left h]
/-- Another link before: another link. -/
theorem lk_prev (p q : BitVec 32) (s : ByteArray) (h : lk p s = lk q s) : p = q := by
  rw [lk_sum, lk_sum] at h
  have hl : ∀ r : BitVec 32, (head r s.size s.data.toList).length = 12 + s.size := fun r => by
    unfold head; rw [List.length_append, List.length_append, le_length, le_length, Array.length_toList]; rfl
  have e := Crc.sum_burst _ _ (by rw [hl, hl]) 0 (fun i hi _ => by omega) (fun i hi _ => by
    apply bitAt_of
    unfold head
    rw [List.append_assoc, List.append_assoc, getD_right (le p.toNat 4) _ _ (by rw [le_length]; omega), getD_right (le q.toNat 4) _ _ (by rw [le_length]; omega), le_length, le_length]) h
  have e2 := congrArg (List.take 4) e
  unfold head at e2
  rw [List.append_assoc, List.append_assoc, List.take_append_of_le_length (by rw [le_length]; omega), List.take_append_of_le_length (by rw [le_length]; omega), List.take_of_length_le (by rw [le_length]; omega), List.take_of_length_le (by rw [le_length]; omega)] at e2
  exact BitVec.eq_of_toNat_eq (le_inj _ _ p.isLt q.isLt e2)

/-- A record with one byte changed: another link. -/
theorem lk_byte (p : BitVec 32) (s t : ByteArray) (j : Nat) (x : UInt8) (ht : t.data.toList = s.data.toList.set j x) (hj : j < s.size) (h : lk p s = lk p t) : x = s.data.toList.getD j 0 := by
  have hs : t.size = s.size := by
    have := congrArg List.length ht
    rw [List.length_set, Array.length_toList, Array.length_toList] at this
    exact this
  rw [lk_sum, lk_sum, hs, ht] at h
  have hl : ∀ m : List UInt8, (head p s.size m).length = 12 + m.length := fun m => by
    unfold head; rw [List.length_append, List.length_append, le_length, le_length]
  have hg : ∀ (m : List UInt8) (i : Nat), 12 ≤ i → (head p s.size m).getD i 0 = m.getD (i - 12) 0 := fun m i hi => by
    unfold head
    rw [getD_right _ _ _ (by rw [List.length_append, le_length, le_length]; omega), List.length_append, le_length, le_length]
  have hlow : ∀ (m m' : List UInt8) (i : Nat), i < 12 → (head p s.size m).getD i 0 = (head p s.size m').getD i 0 := fun m m' i hi => by
    unfold head
    rw [getD_left (le p.toNat 4 ++ le s.size 8) m _ (by rw [List.length_append, le_length, le_length]; omega), getD_left (le p.toNat 4 ++ le s.size 8) m' _ (by rw [List.length_append, le_length, le_length]; omega)]
  have hne : ∀ i, i ≠ 12 + j → (head p s.size s.data.toList).getD i 0 = (head p s.size (s.data.toList.set j x)).getD i 0 := fun i hi => by
    by_cases h12 : 12 ≤ i
    · rw [hg _ _ h12, hg _ _ h12, List.getD_eq_getElem?_getD, List.getD_eq_getElem?_getD, List.getElem?_set_ne (by omega)]
    · exact hlow _ _ i (by omega)
  have e := Crc.sum_burst _ _ (by rw [hl, hl, List.length_set]) (8 * (12 + j)) (fun i hi _ => bitAt_of (hne _ (by omega))) (fun i hi _ => bitAt_of (hne _ (by omega))) h
  have e2 := congrArg (fun m => m.getD (12 + j) 0) e
  rw [hg _ _ (by omega), hg _ _ (by omega), show 12 + j - 12 = j from by omega] at e2
  rw [e2, List.getD_eq_getElem?_getD, List.getElem?_set_self (by rw [Array.length_toList]; exact hj)]
  rfl

/-- The chain of records of which record k is changed. -/
theorem gs_set (l : List ByteArray) (k i : Nat) (t : ByteArray) (hk : k < l.length) : gs (l.set k t) i = if i = k then t else gs l i := by
  unfold gs
  rw [List.getD_eq_getElem?_getD, List.getD_eq_getElem?_getD]
  by_cases e : i = k
  · subst e; rw [if_pos rfl, List.getElem?_set_self hk]; rfl
  · rw [if_neg e, List.getElem?_set_ne (fun h => e h.symm)]
theorem lnk_low (l : List ByteArray) (k : Nat) (t : ByteArray) (hk : k < l.length) (i : Nat) (hi : i ≤ k) : lnk (l.set k t) i = lnk l i := by
  unfold lnk
  rw [List.take_set_of_le hi]
theorem lnk_high (l : List ByteArray) (k : Nat) (t : ByteArray) (hk : k < l.length) (hne : ∀ p, lk p (gs l k) ≠ lk p t) : ∀ d i, i = k + 1 + d → i ≤ l.length → lnk (l.set k t) i ≠ lnk l i := by
  intro d
  induction d with
  | zero =>
    intro i hi hil
    subst hi
    rw [Nat.add_zero, lnk_succ _ k (by rw [List.length_set]; omega), lnk_succ _ k (by omega), lnk_low l k t hk k (Nat.le_refl _), gs_set l k k t hk, if_pos rfl]
    exact fun h => hne _ h.symm
  | succ d ih =>
    intro i hi hil
    obtain ⟨m, rfl⟩ : ∃ m, i = m + 1 := ⟨i - 1, by omega⟩
    rw [lnk_succ _ m (by rw [List.length_set]; omega), lnk_succ _ m (by omega), gs_set l k m t hk, if_neg (by omega)]
    intro h
    exact ih m (by omega) (by omega) (lk_prev _ _ _ h)
/-- Link i of both chains is the same exactly if i < k. -/
theorem chains_same (l : List ByteArray) (k : Nat) (t : ByteArray) (hk : k < l.length) (hne : ∀ p, lk p (gs l k) ≠ lk p t) (i : Nat) (hi : i < l.length) : (lnk l (i + 1) = lnk (l.set k t) (i + 1)) ↔ i < k := by
  constructor
  · intro h
    apply Nat.lt_of_not_le
    intro hki
    exact lnk_high l k t hk hne (i - k) (i + 1) (by omega) (by omega) h.symm
  · intro h
    exact (lnk_low l k t hk (i + 1) (by omega)).symm
theorem verified_changed (l : List ByteArray) (k : Nat) (t : ByteArray) (hk : k < l.length) (hne : ∀ p, lk p (gs l k) ≠ lk p t) : Verified (l.set k t) (chainL l) k false := by
  refine ⟨by rw [List.length_set]; omega, fun j hj => ⟨by rw [chainL_length]; omega, ?_⟩, fun _ => ⟨fun h => ?_, rfl⟩, fun e => by rw [List.length_set] at e; omega⟩
  · rw [chainL_get l j (by omega), pv_chain l j (by omega), gs_set l k j t hk, if_neg (by omega), lnk_succ l j (by omega)]
  · have := h.2
    rw [chainL_get l k hk, pv_chain l k hk, gs_set l k k t hk, if_pos rfl, lnk_succ l k hk] at this
    exact hne _ this

end Go.Proofs.Ytigilgkgkjkebaa
