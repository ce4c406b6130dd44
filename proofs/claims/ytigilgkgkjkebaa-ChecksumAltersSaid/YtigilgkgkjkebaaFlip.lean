/- The plain laws of the checksum: flipped bits and changed bytes are found. No Go in it. -/
import Derived.Test.YtigilgkgkjkebaaCrcBits
namespace Go.Proofs.Ytigilgkgkjkebaa.Crc

def fl (l : List UInt8) (p : Nat) : List UInt8 := if p / 8 < l.length then l.set (p / 8) (l.getD (p / 8) 0 ^^^ UInt8.ofNat (2 ^ (p % 8))) else l
theorem fl_length (l : List UInt8) (p : Nat) : (fl l p).length = l.length := by unfold fl; split <;> simp
theorem testBit_pow (j k : Nat) (hj : j < 8) (hk : k < 8) : (UInt8.ofNat (2 ^ j)).toNat.testBit k = decide (k = j) := by
  have : ∀ j, j < 8 → ∀ k, k < 8 → (UInt8.ofNat (2 ^ j)).toNat.testBit k = decide (k = j) := by decide +kernel
  exact this j hj k hk
theorem fl_bit (l : List UInt8) (a p : Nat) (hp : p < 8 * l.length) : bitAt (fl l a) p = (bitAt l p ^^ decide (p = a)) := by
  unfold fl bitAt
  split
  · rename_i h
    rw [List.getD_eq_getElem?_getD, List.getElem?_set]
    by_cases e : a / 8 = p / 8
    · rw [if_pos e, if_pos h]
      simp only [Option.getD_some, UInt8.toNat_xor, Nat.testBit_xor]
      rw [testBit_pow _ _ (by omega) (by omega), e]
      congr 1
      by_cases e2 : p = a
      · simp [e2]
      · have : ¬ p % 8 = a % 8 := by omega
        simp [e2, this]
    · rw [if_neg e]
      have : ¬ p = a := by intro h; subst h; exact e rfl
      simp [this]
  · rename_i h
    have : ¬ p = a := by omega
    simp [this]

theorem byte_ext {a b : UInt8} (h : ∀ j, j < 8 → a.toNat.testBit j = b.toNat.testBit j) : a = b := by
  apply UInt8.toNat_inj.1
  apply Nat.eq_of_testBit_eq
  intro j
  by_cases hj : j < 8
  · exact h j hj
  · have e : ∀ c : UInt8, c.toNat.testBit j = false := fun c => Nat.testBit_lt_two_pow (Nat.lt_of_lt_of_le c.toNat_lt (Nat.pow_le_pow_right (by omega) (by omega)))
    rw [e, e]
theorem bits_ext {s t : List UInt8} (hl : s.length = t.length) (h : ∀ p, p < 8 * s.length → bitAt s p = bitAt t p) : s = t := by
  apply List.ext_getElem hl
  intro i h1 h2
  apply byte_ext
  intro j hj
  have := h (8 * i + j) (by omega)
  unfold bitAt at this
  rw [show (8 * i + j) / 8 = i from by omega, show (8 * i + j) % 8 = j from by omega] at this
  simpa [List.getD_eq_getElem?_getD, List.getElem?_eq_getElem h1, List.getElem?_eq_getElem h2] using this
theorem bits_ne {s t : List UInt8} (hl : s.length = t.length) (h : s ≠ t) : ∃ p, p < 8 * s.length ∧ (bitAt s p ^^ bitAt t p) = true := by
  apply Classical.byContradiction
  intro hn
  apply h
  apply bits_ext hl
  intro p hp
  apply Classical.byContradiction
  intro hb
  exact hn ⟨p, hp, by cases h1 : bitAt s p <;> cases h2 : bitAt t p <;> simp_all⟩

/-- A change within 32 consecutive bits is found. -/
theorem sum_burst (s t : List UInt8) (hl : s.length = t.length) (p : Nat) (hlo : ∀ i, i < p → i < 8 * s.length → bitAt s i = bitAt t i) (hhi : ∀ i, p + 32 ≤ i → i < 8 * s.length → bitAt s i = bitAt t i) (h : sum s = sum t) : s = t := by
  apply Classical.byContradiction
  intro hne
  obtain ⟨q, hq, hb⟩ := bits_ne hl hne
  rw [sum_eq_iff s t hl] at h
  have e := rb_congr 0#32 (fun i => bitAt s i ^^ bitAt t i) (fun i => decide (i < 8 * s.length) && (bitAt s i ^^ bitAt t i)) (8 * s.length) (fun i hi => by simp [hi])
  rw [e] at h
  refine burst _ (8 * s.length) p q (fun i hi => ?_) (fun i hi hin => ?_) (by simp [hq, hb]) hq h
  · by_cases hin : i < 8 * s.length
    · simp [hin, hlo i hi hin]
    · simp [hin]
  · simp [hhi i hi hin]

/-! ### 32 flips in a row -/
def flips (l : List UInt8) (a : Nat) (b : BitVec 32) : Nat → List UInt8
  | 0 => l
  | k + 1 => if b.getLsbD k then fl (flips l a b k) (a + k) else flips l a b k
theorem flips_length (l : List UInt8) (a : Nat) (b : BitVec 32) (k : Nat) : (flips l a b k).length = l.length := by
  induction k with
  | zero => rfl
  | succ k ih => simp only [flips]; split <;> simp [fl_length, ih]
theorem flips_bit (l : List UInt8) (a : Nat) (b : BitVec 32) (k p : Nat) (hp : p < 8 * l.length) (h : p < a ∨ a + k ≤ p) : bitAt (flips l a b k) p = bitAt l p := by
  induction k with
  | zero => rfl
  | succ k ih =>
    simp only [flips]
    split
    · rw [fl_bit _ _ _ (by rw [flips_length]; exact hp), ih (by omega)]
      have : ¬ p = a + k := by omega
      simp [this]
    · exact ih (by omega)
theorem flips_found (l : List UInt8) (a : Nat) (b : BitVec 32) (h : sum (flips l a b 32) = sum l) : flips l a b 32 = l :=
  sum_burst _ _ (flips_length _ _ _ _) a (fun i hi hin => flips_bit _ _ _ _ _ (by rw [flips_length] at hin; exact hin) (.inl hi)) (fun i hi hin => flips_bit _ _ _ _ _ (by rw [flips_length] at hin; exact hin) (.inr hi)) h

/-! ### up to three bits -/
theorem odd_xor (f g : Nat → Bool) (n : Nat) : odd (fun i => f i ^^ g i) n = (odd f n ^^ odd g n) := by
  induction n with
  | zero => rfl
  | succ n ih => simp only [odd]; rw [ih]; cases odd f n <;> cases odd g n <;> cases f n <;> cases g n <;> rfl
theorem odd_at (x : Nat) (n : Nat) : odd (fun i => decide (i = x)) n = decide (x < n) := by
  induction n with
  | zero => simp [odd]
  | succ n ih =>
    simp only [odd]
    rw [ih]
    by_cases h : x < n
    · simp [h, show ¬ n = x by omega, show x < n + 1 by omega]
    · by_cases e : n = x
      · simp [e]
      · simp [h, e, show ¬ x < n + 1 by omega]
theorem odd_none (n : Nat) : odd (fun _ => false) n = false := by
  induction n with
  | zero => rfl
  | succ n ih => simp only [odd]; rw [ih]; rfl
theorem two_any (f : Nat → Bool) (n x y : Nat) (hne : x ≠ y) (hx : x < n) (hy : y < n) (hn : n ≤ 4096) (hf : ∀ i, i < n → f i = (decide (i = x) ^^ decide (i = y))) : rb 0#32 f n ≠ 0#32 := by
  rcases Nat.lt_or_gt_of_ne hne with h | h
  · exact two_bits f n x y h hy hn (fun i hi => by rw [hf i hi]; by_cases e : i = x <;> by_cases e' : i = y <;> simp [e, e'] <;> omega)
  · exact two_bits f n y x h hx hn (fun i hi => by rw [hf i hi]; by_cases e : i = x <;> by_cases e' : i = y <;> simp [e, e'] <;> omega)

/-- up to three flips, each place once -/
def fl2 (l : List UInt8) (x y : Nat) : List UInt8 := if y = x then fl l x else fl (fl l x) y
def fl3 (l : List UInt8) (x y z : Nat) : List UInt8 := if z = x ∨ z = y then fl2 l x y else fl (fl2 l x y) z
def three (l : List UInt8) (x y z : Nat) : Nat → List UInt8
  | 0 => l
  | 1 => fl l x
  | 2 => fl2 l x y
  | _ => fl3 l x y z
theorem three_length (l : List UInt8) (x y z : Nat) : (three l x y z 3).length = l.length := by
  simp only [three, fl3, fl2]; split <;> split <;> simp [fl_length]
theorem one_bit (f : Nat → Bool) (n x : Nat) (hx : x < n) (hf : ∀ i, i < n → f i = decide (i = x)) : rb 0#32 f n ≠ 0#32 := by
  rw [rb_congr 0#32 f _ n hf]
  exact odd_ne (by rw [odd_at]; simpa using hx)
theorem three_bits (f : Nat → Bool) (n x y z : Nat) (hxy : x ≠ y) (hxz : x ≠ z) (hyz : y ≠ z) (hn : n ≤ 4096) (hf : ∀ i, i < n → f i = (decide (i = x) ^^ decide (i = y) ^^ decide (i = z))) (hs : x < n ∨ y < n ∨ z < n) : rb 0#32 f n ≠ 0#32 := by
  have ho : odd f n = (decide (x < n) ^^ decide (y < n) ^^ decide (z < n)) := by
    have e : odd f n = odd (fun i => (decide (i = x) ^^ decide (i = y) ^^ decide (i = z))) n := by
      clear hs
      induction n with
      | zero => rfl
      | succ n ih => simp only [odd]; rw [ih (by omega) (fun i hi => hf i (by omega)), hf n (by omega)]
    rw [e, odd_xor, odd_xor, odd_at, odd_at, odd_at]
  by_cases hx : x < n <;> by_cases hy : y < n <;> by_cases hz : z < n
  · exact odd_ne (by rw [ho]; simp [hx, hy, hz])
  · exact two_any f n x y hxy hx hy hn (fun i hi => by rw [hf i hi]; simp [show ¬ i = z by omega])
  · exact two_any f n x z hxz hx hz hn (fun i hi => by rw [hf i hi]; simp [show ¬ i = y by omega])
  · exact odd_ne (by rw [ho]; simp [hx, hy, hz])
  · exact two_any f n y z hyz hy hz hn (fun i hi => by rw [hf i hi]; simp [show ¬ i = x by omega])
  · exact odd_ne (by rw [ho]; simp [hx, hy, hz])
  · exact odd_ne (by rw [ho]; simp [hx, hy, hz])
  · omega
theorem xor_self_left (a b : Bool) : ((a ^^ b) ^^ a) = b := by cases a <;> cases b <;> rfl
theorem xor_self3 (a b c : Bool) : ((a ^^ b ^^ c) ^^ a) = (b ^^ c) := by cases a <;> cases b <;> cases c <;> rfl
theorem xor_self4 (a b c d : Bool) : ((a ^^ b ^^ c ^^ d) ^^ a) = (b ^^ c ^^ d) := by cases a <;> cases b <;> cases c <;> cases d <;> rfl
theorem three_found (l : List UInt8) (x y z : Nat) (hl : l.length ≤ 512) (h : sum (three l x y z 3) = sum l) : three l x y z 3 = l := by
  apply Classical.byContradiction
  intro hne
  obtain ⟨q, hq, hb⟩ := bits_ne (three_length _ _ _ _) hne
  rw [sum_eq_iff _ _ (three_length _ _ _ _)] at h
  rw [three_length] at h hq
  revert h
  simp only [three, fl3, fl2] at hb ⊢
  have b1 : ∀ p, p < 8 * l.length → bitAt (fl l x) p = (bitAt l p ^^ decide (p = x)) := fun p hp => fl_bit l x p hp
  have b2 : ∀ p, p < 8 * l.length → bitAt (fl (fl l x) y) p = (bitAt l p ^^ decide (p = x) ^^ decide (p = y)) := fun p hp => by rw [fl_bit _ _ _ (by rw [fl_length]; exact hp), b1 p hp]
  by_cases e1 : y = x
  · rw [if_pos e1] at hb ⊢
    by_cases e2 : z = x ∨ z = y
    · rw [if_pos e2] at hb ⊢
      refine one_bit _ _ x ?_ (fun i hi => by rw [b1 i hi]; exact xor_self_left _ _)
      rw [b1 q hq, xor_self_left] at hb
      have : q = x := by simpa using hb
      omega
    · rw [if_neg e2] at hb ⊢
      have b3 : ∀ p, p < 8 * l.length → bitAt (fl (fl l x) z) p = (bitAt l p ^^ (decide (p = x) ^^ decide (p = z))) := fun p hp => by rw [fl_bit _ _ _ (by rw [fl_length]; exact hp), b1 p hp, Bool.xor_assoc]
      have hf : ∀ i, i < 8 * l.length → (bitAt (fl (fl l x) z) i ^^ bitAt l i) = (decide (i = x) ^^ decide (i = z)) := fun i hi => by rw [b3 i hi]; exact xor_self_left _ _
      rw [hf q hq] at hb
      by_cases hx : x < 8 * l.length <;> by_cases hz : z < 8 * l.length
      · exact two_any _ _ x z (by omega) hx hz (by omega) hf
      · exact one_bit _ _ x hx (fun i hi => by rw [hf i hi]; simp [show ¬ i = z by omega])
      · exact one_bit _ _ z hz (fun i hi => by rw [hf i hi]; simp [show ¬ i = x by omega])
      · exfalso; simp [show ¬ q = x by omega, show ¬ q = z by omega] at hb
  · rw [if_neg e1] at hb ⊢
    by_cases e2 : z = x ∨ z = y
    · rw [if_pos e2] at hb ⊢
      have hf : ∀ i, i < 8 * l.length → (bitAt (fl (fl l x) y) i ^^ bitAt l i) = (decide (i = x) ^^ decide (i = y)) := fun i hi => by rw [b2 i hi]; exact xor_self3 _ _ _
      rw [hf q hq] at hb
      by_cases hx : x < 8 * l.length <;> by_cases hy : y < 8 * l.length
      · exact two_any _ _ x y (by omega) hx hy (by omega) hf
      · exact one_bit _ _ x hx (fun i hi => by rw [hf i hi]; simp [show ¬ i = y by omega])
      · exact one_bit _ _ y hy (fun i hi => by rw [hf i hi]; simp [show ¬ i = x by omega])
      · exfalso; simp [show ¬ q = x by omega, show ¬ q = y by omega] at hb
    · rw [if_neg e2] at hb ⊢
      have hf : ∀ i, i < 8 * l.length → (bitAt (fl (fl (fl l x) y) z) i ^^ bitAt l i) = (decide (i = x) ^^ decide (i = y) ^^ decide (i = z)) := fun i hi => by
        rw [fl_bit _ _ _ (by rw [fl_length, fl_length]; exact hi), b2 i hi]; exact xor_self4 _ _ _ _
      rw [hf q hq] at hb
      refine three_bits _ _ x y z (by omega) (by omega) (by omega) (by omega) hf ?_
      apply Classical.byContradiction
      intro hs
      simp [show ¬ q = x by omega, show ¬ q = y by omega, show ¬ q = z by omega] at hb

end Go.Proofs.Ytigilgkgkjkebaa.Crc
