/- The plain laws of the checksum, bit by bit: which changes it finds. No Go in it. -/
import Derived.Test.YtigilgkgkjkebaaCrc
namespace Go.Proofs.Ytigilgkgkjkebaa.Crc

def one (b : Bool) : BitVec 32 := if b then 1#32 else 0#32
/-- the register behind the bits 0 .. n - 1 of f -/
def rb (c : BitVec 32) (f : Nat → Bool) : Nat → BitVec 32
  | 0 => c
  | n + 1 => zb (rb c f n ^^^ one (f n))

theorem one_xor (a b : Bool) : one (a ^^ b) = one a ^^^ one b := by cases a <;> cases b <;> decide
theorem rb_xor (c d : BitVec 32) (f g : Nat → Bool) (n : Nat) : rb c f n ^^^ rb d g n = rb (c ^^^ d) (fun i => f i ^^ g i) n := by
  induction n with
  | zero => rfl
  | succ n ih =>
    simp only [rb]
    rw [← zb_xor, ← ih, xor_swap, one_xor]
theorem rb_congr (c : BitVec 32) (f g : Nat → Bool) (n : Nat) (h : ∀ i, i < n → f i = g i) : rb c f n = rb c g n := by
  induction n with
  | zero => rfl
  | succ n ih => simp only [rb]; rw [ih (fun i hi => h i (by omega)), h n (by omega)]
theorem rb_add (c : BitVec 32) (f : Nat → Bool) (m n : Nat) : rb c f (m + n) = rb (rb c f m) (fun i => f (m + i)) n := by
  induction n with
  | zero => rfl
  | succ n ih => rw [← Nat.add_assoc]; simp only [rb]; rw [ih]
theorem rb_none (c : BitVec 32) (f : Nat → Bool) (n : Nat) (h : ∀ i, i < n → f i = false) : rb c f n = zbn n c := by
  induction n with
  | zero => rfl
  | succ n ih => simp only [rb]; rw [ih (fun i hi => h i (by omega)), h n (by omega), zbn_succ]; simp [one]

/-! ### a word of up to 32 bits -/
def val (f : Nat → Bool) : Nat → BitVec 32
  | 0 => 0#32
  | m + 1 => val f m ^^^ (if f m then 1#32 <<< m else 0#32)
theorem val_bit (f : Nat → Bool) (m : Nat) (i : Nat) (hi : i < 32) : (val f m).getLsbD i = (decide (i < m) && f i) := by
  induction m with
  | zero => simp [val]
  | succ m ih =>
    simp only [val]
    rw [BitVec.getLsbD_xor, ih]
    by_cases e : i = m
    · subst e
      cases h : f i with
      | true => simp [hi]
      | false => simp
    · have h1 : (if f m then 1#32 <<< m else 0#32).getLsbD i = false := by
        cases f m with
        | true =>
          rw [if_pos rfl, BitVec.getLsbD_shiftLeft]
          by_cases hlt : i < m
          · simp [hlt]
          · have : ¬ i - m = 0 := by omega
            simp [this]
        | false => simp
      rw [h1, Bool.xor_false]
      by_cases hlt : i < m
      · simp [hlt, show i < m + 1 by omega]
      · simp [hlt, show ¬ i < m + 1 by omega]
theorem out_one : ∀ m, m < 32 → zbn m (1#32 <<< m) = 1#32 := by decide +kernel
theorem rb_val (f : Nat → Bool) (c : BitVec 32) (m : Nat) (hm : m ≤ 32) : rb c f m = zbn m (c ^^^ val f m) := by
  induction m with
  | zero => simp [rb, zbn, val]
  | succ m ih =>
    have : zbn (m + 1) (c ^^^ val f (m + 1)) = zb (zbn m (c ^^^ val f m) ^^^ zbn m (if f m then 1#32 <<< m else 0#32)) := by
      rw [zbn_succ, ← zbn_xor]; simp only [val]; rw [BitVec.xor_assoc]
    rw [this]
    simp only [rb]
    rw [ih (by omega)]
    congr 2
    cases f m with
    | true => rw [if_pos rfl, out_one m (by omega)]; rfl
    | false => simp [one, zbn_zero]

/-! ### the bits of bytes -/
def bitAt (l : List UInt8) (p : Nat) : Bool := (l.getD (p / 8) 0).toNat.testBit (p % 8)
theorem ofNat_val (b : UInt8) : BitVec.ofNat 32 b.toNat = val (fun i => b.toNat.testBit i) 8 := by
  apply BitVec.eq_of_getLsbD_eq
  intro i hi
  rw [val_bit _ _ _ hi, BitVec.getLsbD_ofNat]
  simp only [hi, decide_true, Bool.true_and]
  by_cases h : i < 8
  · simp [h]
  · have : b.toNat < 2 ^ i := Nat.lt_of_lt_of_le b.toNat_lt (Nat.pow_le_pow_right (by omega) (by omega))
    simp [h, Nat.testBit_lt_two_pow this]
theorem byte_rb (c : BitVec 32) (b : UInt8) : byte c b = rb c (fun i => b.toNat.testBit i) 8 := by
  rw [rb_val _ _ _ (by omega)]
  unfold byte
  rw [ofNat_val]
theorem reg_rb (l : List UInt8) : ∀ (c : BitVec 32), reg c l = rb c (bitAt l) (8 * l.length) := by
  induction l with
  | nil => intro c; rfl
  | cons b l ih =>
    intro c
    show reg (byte c b) l = _
    rw [ih, List.length_cons, Nat.mul_add, Nat.add_comm, Nat.mul_one, rb_add, byte_rb]
    have h1 : rb c (fun i => b.toNat.testBit i) 8 = rb c (bitAt (b :: l)) 8 := rb_congr _ _ _ _ (fun i hi => by
      unfold bitAt; rw [Nat.div_eq_of_lt hi, Nat.mod_eq_of_lt hi]; rfl)
    rw [h1]
    apply rb_congr
    intro i hi
    unfold bitAt
    rw [show (8 + i) / 8 = i / 8 + 1 from by omega, show (8 + i) % 8 = i % 8 from by omega]
    rfl

theorem sum_eq_iff (s t : List UInt8) (hl : s.length = t.length) : sum s = sum t ↔ rb 0#32 (fun i => bitAt s i ^^ bitAt t i) (8 * s.length) = 0#32 := by
  unfold sum extend
  have e := rb_xor (~~~ 0#32) (~~~ 0#32) (bitAt s) (bitAt t) (8 * s.length)
  have z : (~~~ 0#32 : BitVec 32) ^^^ ~~~ 0#32 = 0#32 := by decide
  rw [z] at e
  rw [reg_rb, reg_rb, ← hl, ← e]
  constructor
  · intro h
    have h' := congrArg (fun x => ~~~ x) h
    simp only [not_not] at h'
    rw [h']; simp
  · intro h
    rw [xor_eq_zero h]

/-! ### a change within 32 bits -/
theorem zbn_ne {n : Nat} {c : BitVec 32} (h : c ≠ 0#32) : zbn n c ≠ 0#32 := fun e => h (zbn_inj n (e.trans (zbn_zero n).symm))
theorem burst (f : Nat → Bool) (n p q : Nat) (hlo : ∀ i, i < p → f i = false) (hhi : ∀ i, p + 32 ≤ i → i < n → f i = false) (hq : f q = true) (hqn : q < n) : rb 0#32 f n ≠ 0#32 := by
  have hpq : p ≤ q := by
    apply Nat.le_of_not_lt
    intro h
    rw [hlo q h] at hq
    cases hq
  have hqp : q < p + 32 := by
    apply Nat.lt_of_not_le
    intro h
    rw [hhi q h hqn] at hq
    cases hq
  obtain ⟨m, hm, hmn, hqm, hme⟩ : ∃ m, m ≤ 32 ∧ p + m ≤ n ∧ q < p + m ∧ (m = 32 ∨ p + m = n) := ⟨min 32 (n - p), by omega, by omega, by omega, by omega⟩
  obtain ⟨r, hr⟩ : ∃ r, n = p + m + r := ⟨n - (p + m), by omega⟩
  have e1 : rb 0#32 f p = 0#32 := by rw [rb_none _ _ _ hlo, zbn_zero]
  have e2 : rb 0#32 f (p + m) = zbn m (val (fun i => f (p + i)) m) := by
    rw [rb_add, e1, rb_val _ _ _ hm]; simp
  have hv : val (fun i => f (p + i)) m ≠ 0#32 := by
    intro h
    have := val_bit (fun i => f (p + i)) m (q - p) (by omega)
    rw [h] at this
    simp only [show p + (q - p) = q from by omega, hq] at this
    simp [show q - p < m by omega] at this
  subst hr
  rw [rb_add, e2]
  rcases hme with hm32 | hn
  · rw [rb_none _ _ _ (fun i hi => hhi (p + m + i) (by omega) (by omega))]
    exact zbn_ne (zbn_ne hv)
  · obtain rfl : r = 0 := by omega
    exact zbn_ne hv

/-! ### one, two or three bits -/
def par (c : BitVec 32) : BitVec 32 := app (fun _ => 1#32) c 32
theorem app_xor (o : Nat → BitVec 32) (a b : BitVec 32) (m : Nat) : app o (a ^^^ b) m = app o a m ^^^ app o b m := by
  induction m with
  | zero => simp [app]
  | succ m ih =>
    simp only [app]
    rw [BitVec.getLsbD_xor, ih]
    have ht : (true ^^ true) = false := rfl
    have hf : (false ^^ true) = true := rfl
    have hg : (true ^^ false) = true := rfl
    cases a.getLsbD m <;> cases b.getLsbD m
    · simp
    · simp [hf, BitVec.xor_assoc]
    · rw [hg, if_pos rfl, if_pos rfl, if_neg (by simp), BitVec.xor_assoc, BitVec.xor_assoc, BitVec.xor_comm (app o b m)]
    · rw [ht, if_neg (by simp), if_pos rfl, if_pos rfl, xor_swap]; simp
theorem par_xor (a b : BitVec 32) : par (a ^^^ b) = par a ^^^ par b := app_xor _ _ _ _
theorem par_cols : ∀ i, i < 32 → par (zb (1#32 <<< i)) = par (1#32 <<< i) := by decide +kernel
theorem par_zb (c : BitVec 32) : par (zb c) = par c := by
  have h1 := app_all (fun c => par (zb c)) (fun a b => by rw [zb_xor, par_xor]) (by decide +kernel) c (fun i => par (1#32 <<< i)) (fun i hi => (par_cols i hi).symm)
  have h2 := app_all par par_xor (by decide +kernel) c (fun i => par (1#32 <<< i)) (fun i hi => rfl)
  rw [← h1, h2]
theorem par_one (b : Bool) : par (one b) = one b := by cases b <;> decide +kernel
/-- whether an odd number of the bits 0 .. n - 1 are set -/
def odd (f : Nat → Bool) : Nat → Bool
  | 0 => false
  | n + 1 => odd f n ^^ f n
theorem par_rb (f : Nat → Bool) (n : Nat) : par (rb 0#32 f n) = one (odd f n) := by
  induction n with
  | zero => exact (by decide +kernel : par 0#32 = one false)
  | succ n ih => simp only [rb, odd]; rw [par_zb, par_xor, ih, par_one, one_xor]
theorem odd_ne {f : Nat → Bool} {n : Nat} (h : odd f n = true) : rb 0#32 f n ≠ 0#32 := by
  intro e
  have := par_rb f n
  rw [e, h] at this
  revert this
  decide +kernel

/-- no power of the step from 1 to k turns 1 into 1 -/
def noOne : Nat → BitVec 32 → Bool
  | 0, _ => true
  | k + 1, c => !(zb c == 1#32) && noOne k (zb c)
theorem noOne_at : ∀ (k : Nat) (c : BitVec 32), noOne k c = true → ∀ j, 1 ≤ j → j ≤ k → zbn j c ≠ 1#32
  | 0, _, _, j, h1, h2 => by omega
  | k + 1, c, h, j, h1, h2 => by
    simp only [noOne, Bool.and_eq_true, Bool.not_eq_true', beq_eq_false_iff_ne] at h
    obtain ⟨i, rfl⟩ : ∃ i, j = i + 1 := ⟨j - 1, by omega⟩
    cases i with
    | zero => exact h.1
    | succ i => exact noOne_at k (zb c) h.2 (i + 1) (by omega) (by omega)
theorem order : noOne 4096 1#32 = true := by decide +kernel
theorem two_bits (f : Nat → Bool) (n p q : Nat) (hpq : p < q) (hqn : q < n) (hn : n ≤ 4096) (hf : ∀ i, i < n → f i = (decide (i = p) || decide (i = q))) : rb 0#32 f n ≠ 0#32 := by
  obtain ⟨d, rfl⟩ : ∃ d, q = p + 1 + d := ⟨q - (p + 1), by omega⟩
  obtain ⟨r, rfl⟩ : ∃ r, n = p + 1 + d + 1 + r := ⟨n - (p + 1 + d + 1), by omega⟩
  have e0 : rb 0#32 f p = 0#32 := by
    rw [rb_none _ _ _ (fun i hi => by rw [hf i (by omega)]; simp; omega), zbn_zero]
  have e1 : rb 0#32 f (p + 1) = zb 1#32 := by
    simp only [rb]; rw [e0, hf p (by omega)]; simp [one]
  have e2 : rb 0#32 f (p + 1 + d) = zbn (d + 1) 1#32 := by
    rw [rb_add, e1, rb_none _ _ _ (fun i hi => by rw [hf _ (by omega)]; simp; omega)]; rfl
  have e3 : rb 0#32 f (p + 1 + d + 1) = zb (zbn (d + 1) 1#32 ^^^ 1#32) := by
    simp only [rb] at e2 ⊢; rw [e2, hf _ (by omega)]; simp [one]
  have hne : zb (zbn (d + 1) 1#32 ^^^ 1#32) ≠ 0#32 := by
    intro h
    exact noOne_at 4096 1#32 order (d + 1) (by omega) (by omega) (xor_eq_zero (zb_eq_zero h))
  rw [rb_add, e3, rb_none _ _ _ (fun i hi => by rw [hf _ (by omega)]; simp; omega)]
  exact zbn_ne hne

end Go.Proofs.Ytigilgkgkjkebaa.Crc
