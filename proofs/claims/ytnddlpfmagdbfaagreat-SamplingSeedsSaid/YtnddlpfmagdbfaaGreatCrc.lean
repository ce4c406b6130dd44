/- The plain laws of the checksum and of the mixing function, on words of 32 and 64 bits: no Go in it. No conditions. -/
namespace Go.Proofs.YtnddlpfmagdbfaaGreat.Crc

/-! ### the register -/
def poly : BitVec 32 := 0x82F63B78#32
def zb (c : BitVec 32) : BitVec 32 := if c.getLsbD 0 then (c >>> 1) ^^^ poly else c >>> 1

theorem zb_eq (c : BitVec 32) : zb c = (c >>> 1) ^^^ (if c.getLsbD 0 then poly else 0#32) := by
  unfold zb
  split <;> simp

theorem xor_swap (a b c d : BitVec 32) : a ^^^ b ^^^ (c ^^^ d) = (a ^^^ c) ^^^ (b ^^^ d) := by
  rw [BitVec.xor_assoc, BitVec.xor_assoc, ← BitVec.xor_assoc b c d, ← BitVec.xor_assoc c b d, BitVec.xor_comm b c]

theorem zb_xor (a b : BitVec 32) : zb (a ^^^ b) = zb a ^^^ zb b := by
  rw [zb_eq, zb_eq, zb_eq, BitVec.ushiftRight_xor_distrib, xor_swap]
  congr 1
  rw [BitVec.getLsbD_xor]
  cases a.getLsbD 0 <;> cases b.getLsbD 0 <;> simp

def zbn : Nat → BitVec 32 → BitVec 32
  | 0, c => c
  | n + 1, c => zbn n (zb c)

theorem zbn_xor (n : Nat) : ∀ a b, zbn n (a ^^^ b) = zbn n a ^^^ zbn n b := by
  induction n with
  | zero => intro a b; rfl
  | succ n ih => intro a b; simp only [zbn, zb_xor, ih]

theorem zbn_add (m n : Nat) : ∀ c, zbn (m + n) c = zbn n (zbn m c) := by
  induction m with
  | zero => intro c; simp [zbn]
  | succ m ih => intro c; rw [Nat.succ_add]; simp only [zbn]; exact ih _

theorem zbn_succ (n : Nat) (c : BitVec 32) : zbn (n + 1) c = zb (zbn n c) := by rw [zbn_add n 1]; rfl

theorem zb_zero : zb 0#32 = 0#32 := by decide
theorem zbn_zero (n : Nat) : zbn n 0#32 = 0#32 := by
  induction n with
  | zero => rfl
  | succ n ih => simp only [zbn, zb_zero, ih]

/-- The lowest bit that fell out is told by the highest one. -/
theorem zb_top (c : BitVec 32) : (zb c).getLsbD 31 = c.getLsbD 0 := by
  rw [zb_eq, BitVec.getLsbD_xor]
  have h : (c >>> 1).getLsbD 31 = false := by simp
  rw [h]
  cases c.getLsbD 0 <;> decide

theorem zb_eq_zero {c : BitVec 32} (h : zb c = 0#32) : c = 0#32 := by
  have h0 : c.getLsbD 0 = false := by rw [← zb_top, h]; decide
  rw [zb_eq, h0] at h
  simp only [Bool.false_eq_true, if_false, BitVec.xor_zero] at h
  apply BitVec.eq_of_getLsbD_eq
  intro i hi
  cases i with
  | zero => rw [h0]; simp
  | succ i =>
    have := congrArg (fun v : BitVec 32 => v.getLsbD i) h
    simp only [BitVec.getLsbD_ushiftRight] at this
    rw [Nat.add_comm 1 i] at this
    simpa using this

theorem xor_eq_zero {a b : BitVec 32} (h : a ^^^ b = 0#32) : a = b := by
  have : a ^^^ b ^^^ b = b := by rw [h]; simp
  rw [BitVec.xor_assoc] at this
  simpa using this

theorem zb_inj {a b : BitVec 32} (h : zb a = zb b) : a = b := by
  apply xor_eq_zero
  apply zb_eq_zero
  rw [zb_xor, h]
  simp

theorem zbn_inj (n : Nat) : ∀ {a b : BitVec 32}, zbn n a = zbn n b → a = b := by
  induction n with
  | zero => intro a b h; exact h
  | succ n ih => intro a b h; exact zb_inj (ih h)

/-! ### bytes -/
def byte (c : BitVec 32) (b : UInt8) : BitVec 32 := zbn 8 (c ^^^ BitVec.ofNat 32 b.toNat)
def reg (c : BitVec 32) (l : List UInt8) : BitVec 32 := l.foldl byte c
def extend (s : BitVec 32) (l : List UInt8) : BitVec 32 := ~~~ reg (~~~ s) l
def sum (l : List UInt8) : BitVec 32 := extend 0#32 l
def Z (n : Nat) (c : BitVec 32) : BitVec 32 := zbn (8 * n) c
def combine (a b : BitVec 32) (n : Nat) : BitVec 32 := Z n a ^^^ b

theorem reg_nil (c : BitVec 32) : reg c [] = c := rfl
theorem reg_append (c : BitVec 32) (s t : List UInt8) : reg c (s ++ t) = reg (reg c s) t := List.foldl_append ..
theorem reg_snoc (c : BitVec 32) (s : List UInt8) (b : UInt8) : reg c (s ++ [b]) = byte (reg c s) b := by rw [reg_append]; rfl

theorem reg_xor (t : List UInt8) : ∀ c d, reg (c ^^^ d) t = Z t.length c ^^^ reg d t := by
  induction t with
  | nil => intro c d; rfl
  | cons b t ih =>
    intro c d
    have e : byte (c ^^^ d) b = zbn 8 c ^^^ byte d b := by unfold byte; rw [BitVec.xor_assoc, zbn_xor]
    show reg (byte (c ^^^ d) b) t = _
    rw [e, ih]
    show _ = Z (t.length + 1) c ^^^ reg (byte d b) t
    have : Z (t.length + 1) c = Z t.length (zbn 8 c) := by
      unfold Z
      rw [Nat.mul_add, Nat.add_comm (8 * t.length), Nat.mul_one, zbn_add]
    rw [this]

theorem not_eq (a : BitVec 32) : ~~~ a = a ^^^ BitVec.allOnes 32 := by rw [BitVec.not_def, BitVec.xor_comm]
theorem not_xor (a b : BitVec 32) : ~~~ (a ^^^ b) = a ^^^ ~~~ b := by
  rw [not_eq, not_eq, BitVec.xor_assoc]
theorem not_not (a : BitVec 32) : ~~~ ~~~ a = a := BitVec.not_not

theorem extend_sum (s t : List UInt8) : extend (sum s) t = sum (s ++ t) := by
  unfold sum extend
  rw [not_not, reg_append]
theorem extend_nil (a : BitVec 32) : extend a [] = a := by unfold extend; rw [reg_nil, not_not]

theorem extend_xor (a b : BitVec 32) (t : List UInt8) : extend (a ^^^ b) t = Z t.length a ^^^ extend b t := by
  unfold extend
  rw [not_xor, reg_xor, not_xor]

theorem combine_sum (s t : List UInt8) : combine (sum s) (sum t) t.length = sum (s ++ t) := by
  unfold combine
  rw [← extend_sum]
  have := extend_xor (sum s) 0#32 t
  rw [BitVec.xor_zero] at this
  rw [this]
  rfl

theorem Z_xor (n : Nat) (a b : BitVec 32) : Z n (a ^^^ b) = Z n a ^^^ Z n b := zbn_xor _ _ _
theorem Z_add (m n : Nat) (a : BitVec 32) : Z (m + n) a = Z n (Z m a) := by unfold Z; rw [Nat.mul_add, zbn_add]
theorem combine_assoc (a b c : BitVec 32) (i j : Nat) : combine (combine a b i) c j = combine a (combine b c j) (i + j) := by
  unfold combine
  rw [Z_xor, Z_add, BitVec.xor_assoc]
theorem combine_zero (a b : BitVec 32) : combine a b 0 = a ^^^ b := rfl

/-! ### a linear map by its columns -/
/-- the images of the single bits below m of r, added up -/
def app (o : Nat → BitVec 32) (r : BitVec 32) : Nat → BitVec 32
  | 0 => 0#32
  | m + 1 => if r.getLsbD m then app o r m ^^^ o m else app o r m

theorem low_zero (r : BitVec 32) : r &&& BitVec.ofNat 32 (2 ^ 0 - 1) = 0#32 := by simp
theorem app_low (f : BitVec 32 → BitVec 32) (hx : ∀ a b, f (a ^^^ b) = f a ^^^ f b) (h0 : f 0#32 = 0#32) (r : BitVec 32) (o : Nat → BitVec 32) (ho : ∀ i, i < 32 → o i = f (1#32 <<< i)) :
    ∀ m, m ≤ 32 → ∃ q, app o r m = f q ∧ ∀ i, q.getLsbD i = (r.getLsbD i && decide (i < m)) := by
  intro m
  induction m with
  | zero => intro _; exact ⟨0#32, h0.symm, by simp⟩
  | succ m ih =>
    intro hm
    obtain ⟨q, hq, hb⟩ := ih (by omega)
    unfold app
    cases hr : r.getLsbD m with
    | false =>
      refine ⟨q, by simp [hq], fun i => ?_⟩
      rw [hb]
      by_cases hi : i = m
      · subst hi; simp [hr]
      · have : (i < m + 1) = (i < m) := by apply propext; omega
        simp only [this]
    | true =>
      refine ⟨q ^^^ (1#32 <<< m), by rw [if_pos rfl, hx, hq, ho m (by omega)], fun i => ?_⟩
      rw [BitVec.getLsbD_xor, hb, BitVec.getLsbD_shiftLeft]
      by_cases hi : i = m
      · subst hi; simp [hr]; omega
      · by_cases hlt : i < m
        · have : i < m + 1 := by omega
          simp [hlt, this]
        · have h1 : ¬ i < m + 1 := by omega
          have h2 : ¬ (i - m = 0) := by omega
          simp [h1, hlt, h2]

theorem app_all (f : BitVec 32 → BitVec 32) (hx : ∀ a b, f (a ^^^ b) = f a ^^^ f b) (h0 : f 0#32 = 0#32) (r : BitVec 32) (o : Nat → BitVec 32) (ho : ∀ i, i < 32 → o i = f (1#32 <<< i)) : app o r 32 = f r := by
  obtain ⟨q, hq, hb⟩ := app_low f hx h0 r o ho 32 (by omega)
  rw [hq]
  congr 1
  apply BitVec.eq_of_getLsbD_eq
  intro i hi
  rw [hb]
  simp [hi]

/-! ### mixing -/
def c1 : BitVec 64 := 0x9e3779b97f4a7c15#64
def c2 : BitVec 64 := 0xbf58476d1ce4e5b9#64
def c3 : BitVec 64 := 0x94d049bb133111eb#64
def mixa (k : Nat) (z : BitVec 64) : BitVec 64 := z ^^^ (z >>> k)
def word (s n : BitVec 64) : BitVec 64 := mixa 31 (mixa 27 (mixa 30 (s * c1 + n) * c2) * c3)
def text (h : BitVec 64) (l : List UInt8) : BitVec 64 := l.foldl (fun h b => word h (BitVec.ofNat 64 b.toNat)) h
def textOf (s : BitVec 64) (l : List UInt8) : BitVec 64 := text (word s (BitVec.ofNat 64 l.length)) l
theorem text_snoc (h : BitVec 64) (l : List UInt8) (b : UInt8) : text h (l ++ [b]) = word (text h l) (BitVec.ofNat 64 b.toNat) := by
  unfold text; rw [List.foldl_append]; rfl

def recStep (a x : BitVec 64) : BitVec 64 := x * (2#64 - a * x)
def recip (a : BitVec 64) : Nat → BitVec 64
  | 0 => a
  | n + 1 => recStep a (recip a n)
def r2 : BitVec 64 := recip c2 6
def r3 : BitVec 64 := recip c3 6
/-- undoes mixa: three shifts by k make up all 64 bits (k from 22 on) -/
def unmix (k : Nat) (z : BitVec 64) : BitVec 64 := z ^^^ (z >>> k) ^^^ (z >>> (2 * k))
def inverse (s w : BitVec 64) : BitVec 64 := unmix 30 (unmix 27 (unmix 31 w * r3) * r2) - s * c1

theorem c2_r2 : c2 * r2 = 1#64 := by decide +kernel
theorem c3_r3 : c3 * r3 = 1#64 := by decide +kernel

theorem shr_shr (z : BitVec 64) (a b : Nat) : (z >>> a) >>> b = z >>> (a + b) := (BitVec.shiftRight_add z a b).symm
theorem shr_all (z : BitVec 64) (k : Nat) (h : 64 ≤ k) : z >>> k = 0#64 := by
  apply BitVec.eq_of_getLsbD_eq
  intro i hi
  rw [BitVec.getLsbD_ushiftRight]
  simp
  apply BitVec.getLsbD_of_ge
  omega
theorem xor4 (a b c d : BitVec 64) : (a ^^^ b ^^^ c) ^^^ (b ^^^ c ^^^ d) = a ^^^ d := by
  apply BitVec.eq_of_getLsbD_eq
  intro i hi
  simp only [BitVec.getLsbD_xor]
  cases a.getLsbD i <;> cases b.getLsbD i <;> cases c.getLsbD i <;> cases d.getLsbD i <;> rfl
theorem xor4' (a b c d : BitVec 64) : (a ^^^ b) ^^^ (b ^^^ c) ^^^ (c ^^^ d) = a ^^^ d := by
  apply BitVec.eq_of_getLsbD_eq
  intro i hi
  simp only [BitVec.getLsbD_xor]
  cases a.getLsbD i <;> cases b.getLsbD i <;> cases c.getLsbD i <;> cases d.getLsbD i <;> rfl
theorem mix_unmix (k : Nat) (h : 22 ≤ k) (z : BitVec 64) : mixa k (unmix k z) = z := by
  unfold mixa unmix
  rw [BitVec.ushiftRight_xor_distrib, BitVec.ushiftRight_xor_distrib, shr_shr, shr_shr, show k + k = 2 * k from by omega, xor4, shr_all z _ (by omega)]
  simp
theorem unmix_mix (k : Nat) (h : 22 ≤ k) (z : BitVec 64) : unmix k (mixa k z) = z := by
  unfold mixa unmix
  rw [BitVec.ushiftRight_xor_distrib, BitVec.ushiftRight_xor_distrib, shr_shr, shr_shr, show k + k = 2 * k from by omega, xor4', shr_all z (k + 2 * k) (by omega)]
  simp
theorem inverse_word (s n : BitVec 64) : inverse s (word s n) = n := by
  unfold inverse word
  rw [unmix_mix 31 (by omega), BitVec.mul_assoc, c3_r3, BitVec.mul_one, unmix_mix 27 (by omega), BitVec.mul_assoc, c2_r2, BitVec.mul_one, unmix_mix 30 (by omega), BitVec.add_comm, BitVec.add_sub_cancel]
theorem r3_c3 : r3 * c3 = 1#64 := by rw [BitVec.mul_comm, c3_r3]
theorem r2_c2 : r2 * c2 = 1#64 := by rw [BitVec.mul_comm, c2_r2]
theorem word_inverse (s w : BitVec 64) : word s (inverse s w) = w := by
  unfold inverse word
  rw [BitVec.add_comm, BitVec.sub_add_cancel, mix_unmix 30 (by omega), BitVec.mul_assoc, r2_c2, BitVec.mul_one, mix_unmix 27 (by omega), BitVec.mul_assoc, r3_c3, BitVec.mul_one, mix_unmix 31 (by omega)]

end Go.Proofs.YtnddlpfmagdbfaaGreat.Crc
