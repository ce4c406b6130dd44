/- Contracts: the linear maps of the checksum's registers, and Combine. -/
import Derived.Test.YtigilgkgkjkebaaW1
import Derived.Laws.Rows
namespace Go.Proofs.Ytigilgkgkjkebaa
open Go.RowKit
set_option linter.unusedVariables false
set_option linter.unusedSimpArgs false

/-- Block b holds the columns o. -/
def Cols (w : World) (b : Nat) (o : Nat → BitVec 32) : Prop := ∀ i, i < 32 → w.cell? ⟨b, i, none⟩ = some (.int .u32 (n32 (o i)))

theorem bitk (c : BitVec 32) (k : Nat) : Go.bits .and .u32 (n32 c / 2 ^ k) 1 = if c.getLsbD k then 1 else 0 := by
  rw [shr32, bit32, BitVec.getLsbD_ushiftRight]; rfl

set_option maxHeartbeats 400000 in
theorem apply_any (b : Nat) (o : Nat → BitVec 32) (n : Int) (c : BitVec 32) (hn : n = n32 c) (w : World) (hc : Cols w b o) :
    Calls Try.prog 36 #[.pointer (some ⟨b, 0, none⟩), .int .u32 n] w fun e w' => e = .returned (.int .u32 (n32 (Crc.app o c 32))) ∧ w = w' := by
  subst hn
  have HC := Lib.hid hc
  clear hc
  go_enter Try.func36, Try.ntmps36
  go_wp2
  go_loop [5, 7] (fun r i => ∃ k : Nat, k ≤ 32 ∧ i = .int .i64 k ∧ r = .int .u32 (n32 (Crc.app o c k))) (fun _ i => 32 - (intOf i).toNat)
  case atStart => exact ⟨0, by omega, rfl, rfl⟩
  case round =>
    obtain ⟨k, hk, rfl, rfl⟩ := hrel
    by_cases hlt : k < 32
    · have hcell := HC.out k hlt
      have hb := bitk c k
      have ha : Crc.app o c (k + 1) = if c.getLsbD k then Crc.app o c k ^^^ o k else Crc.app o c k := rfl
      cases h : c.getLsbD k with
      | true =>
        rw [h, if_pos rfl] at hb ha
        have c0 : (Go.bits .and .u32 (n32 c / 2 ^ k) 1 == 1) = true := beq_iff_eq.mpr hb
        have HA := Lib.hid ha
        clear hb ha h
        go_wp2
        go_round
        case rel => exact ⟨k + 1, by omega, by go_num, by rw [HA.out, xor32]⟩
        case measure => simp [intOf]; omega
      | false =>
        rw [h] at hb ha
        simp only [Bool.false_eq_true, if_false] at hb ha
        have c0 : (Go.bits .and .u32 (n32 c / 2 ^ k) 1 == 1) = false := beq_eq_false_iff_ne.mpr (by omega)
        have HA := Lib.hid ha
        clear hb ha h
        go_wp2
        go_round
        case rel => exact ⟨k + 1, by omega, by go_num, by rw [HA.out]⟩
        case measure => simp [intOf]; omega
    · go_wp2
      go_ret
      exact ⟨ret32 (by rw [show k = 32 from by omega]), rfl⟩

def sq (o : Nat → BitVec 32) (i : Nat) : BitVec 32 := Crc.app o (o i) 32

/-- wr is w with one block more, of 32 cells, of which the first k hold o. -/
structure Filled (w wr : World) (k : Nat) (o : Nat → BitVec 32) : Prop where
  below : Below w.heap.size w wr
  size : wr.heap.size = w.heap.size + 1
  block : ∃ cs : Array Value, wr.heap[w.heap.size]? = some (.cells cs 64 (0, 0)) ∧ cs.size = 32 ∧ ∀ j, j < k → cs[j]? = some (.int .u32 (n32 (o j)))

theorem Filled.start (w : World) (cs : Array Value) (o : Nat → BitVec 32) (h : cs.size = 32) : Filled w (w.alloc (.cells cs 64)) 0 o :=
  ⟨(Below.refl _ _).alloc (Nat.le_refl _) _, by simp, cs, heap_alloc_new _ _, h, fun j hj => by omega⟩
theorem Filled.cell {w wr : World} {k : Nat} {o : Nat → BitVec 32} (h : Filled w wr k o) (j : Nat) (hj : j < 32) : ∃ v, wr.cell? ⟨w.heap.size, j, none⟩ = some v := by
  obtain ⟨cs, h1, h2, h3⟩ := h.block
  exact ⟨cs[j]'(by omega), by rw [cell_of_row wr _ j cs _ _ h1]; simp [h2, hj]⟩
theorem Filled.frozen {w wr : World} {k : Nat} {o : Nat → BitVec 32} (h : Filled w wr k o) (j : Nat) : wr.frozen? ⟨w.heap.size, j, none⟩ = false := by
  obtain ⟨cs, h1, h2, h3⟩ := h.block
  simp [World.frozen?, h1]
theorem Filled.set {w wr : World} {k : Nat} {o : Nat → BitVec 32} (h : Filled w wr k o) (hk : k < 32) : Filled w (wr.setCell ⟨w.heap.size, k, none⟩ (.int .u32 (n32 (o k)))) (k + 1) o := by
  obtain ⟨cs, h1, h2, h3⟩ := h.block
  refine ⟨h.below.setCell (Nat.le_refl _) _, by simp [World.setCell, h.size], cs.setIfInBounds k (.int .u32 (n32 (o k))), ?_, by simp [h2], fun j hj => ?_⟩
  · simp [World.setCell, Array.getElem?_modify, h1]
  · by_cases e : j = k
    · subst e; simp [h2, hk]
    · rw [Array.getElem?_setIfInBounds_ne (by omega)]; exact h3 j (by omega)
theorem Filled.cols {w wr : World} {o : Nat → BitVec 32} (h : Filled w wr 32 o) : Cols wr w.heap.size o := by
  obtain ⟨cs, h1, h2, h3⟩ := h.block
  intro i hi
  rw [cell_of_row wr _ i cs _ _ h1]
  exact h3 i hi
theorem Cols.below {w wr : World} {b : Nat} {o : Nat → BitVec 32} (hc : Cols w b o) (hb : b < w.heap.size) (h : Below w.heap.size w wr) : Cols wr b o :=
  fun i hi => by rw [h.cell (p := ⟨b, i, none⟩) hb]; exact hc i hi

set_option maxHeartbeats 400000 in
theorem squared_any (b : Nat) (o : Nat → BitVec 32) (w : World) (hb : b < w.heap.size) (hc : Cols w b o) :
    Calls Try.prog 35 #[.pointer (some ⟨b, 0, none⟩)] w fun e w' => e = .returned (.pointer (some ⟨w.heap.size, 0, none⟩)) ∧ Filled w w' 32 (sq o) := by
  have HC := Lib.hid hc
  clear hc
  go_enter Try.func35, Try.ntmps35
  go_wp2
  go_loopw [5] (fun i wr => ∃ k : Nat, k ≤ 32 ∧ i = .int .i64 k ∧ Filled w wr k (sq o)) (fun i _ => 32 - (intOf i).toNat)
  case atStart => exact ⟨0, by omega, rfl, Filled.start _ _ _ rfl⟩
  case round =>
    obtain ⟨k, hk, rfl, hF⟩ := hrel
    by_cases hlt : k < 32
    · have HF := Lib.hid hF
      have HCr := Lib.hid (HC.out.below hb hF.below)
      have hcell := HCr.out k hlt
      obtain ⟨v0, hd⟩ := hF.cell k hlt
      have hfr := hF.frozen k
      have HS := Lib.hid (hF.set hlt)
      clear hF
      go_wp2_with (go_at_call 36; (with_reducible refine (apply_any b o _ (o k) rfl _ HCr.out).mono ?_); rintro e w' ⟨rfl, rfl⟩)
      go_roundw
      case rel => exact ⟨k + 1, by omega, by go_num, HS.out⟩
      case measure => simp [intOf]; omega
    · obtain rfl : k = 32 := by omega
      have HF := Lib.hid hF
      clear hF
      go_wp2
      go_ret
      exact ⟨rfl, HF.out⟩

def pw (e : Nat) (i : Nat) : BitVec 32 := Crc.zbn e (1#32 <<< i)
theorem app_pw (e : Nat) (c : BitVec 32) : Crc.app (pw e) c 32 = Crc.zbn e c :=
  Crc.app_all (Crc.zbn e) (Crc.zbn_xor e) (Crc.zbn_zero e) c (pw e) (fun _ _ => rfl)
theorem sq_pw (e : Nat) : sq (pw e) = pw (e + e) := by
  funext i
  unfold sq
  rw [app_pw]
  show Crc.zbn e (Crc.zbn e _) = _
  rw [← Crc.zbn_add]; rfl
theorem shl_one (k : Nat) (hk : k < 32) : (2 ^ k % 4294967296 : Int) = n32 (1#32 <<< k) := by
  unfold n32
  rw [BitVec.toNat_shiftLeft, Nat.shiftLeft_eq]
  simp
theorem shr_one (q : Nat) : ((q : Int) / 2) = ((q / 2 : Nat) : Int) := by omega
theorem odd64 (m : Nat) (h : m ≤ 1099511627776) : Go.bits .and .i64 (m : Int) 1 = (m : Int) % 2 :=
  bits_mask .i64 63 (by decide) (fun n h0 h1 => by rw [IntKind.wrap_i64]; omega) 1 (by decide) (m : Int) (by omega) (by omega)

set_option maxHeartbeats 1000000 in
theorem combine_out (a b n : Int) (h : n < 0 ∨ 1099511627776 < n) (w : World) :
    Calls Try.prog 21 #[.int .u32 a, .int .u32 b, .int .i64 n] w fun e w' => e = .returned (.tuple #[.int .u32 0, .int .i64 2]) ∧ w = w' := by
  rcases h with h | h
  · go_enter Try.func21, Try.ntmps21
    go_wp2
    go_ret2
    exact ⟨rfl, rfl⟩
  · have h' : ¬ n < 0 := by omega
    go_enter Try.func21, Try.ntmps21
    go_wp2
    go_ret2
    exact ⟨rfl, rfl⟩

/-- What holds at the head of Combine's second loop. -/
structure At (w wr : World) (a : BitVec 32) (m : Nat) (q : Nat) (c : BitVec 32) (g : Nat) : Prop where
  below : Below w.heap.size w wr
  hg : g < wr.heap.size
  hw : w.heap.size ≤ g
  le : q ≤ m
  cols : ∃ e, Cols wr g (pw e) ∧ Crc.zbn (e * q) c = Crc.Z m a
theorem At.even {w wr w1 : World} {a c : BitVec 32} {m q g : Nat} (h : At w wr a m q c g) (hq : q % 2 = 0) (e : Nat) (hc : Cols wr g (pw e)) (hz : Crc.zbn (e * q) c = Crc.Z m a) (hF : Filled wr w1 32 (sq (pw e))) : At w w1 a m (q / 2) c wr.heap.size := by
  refine ⟨h.below.trans (hF.below.mono h.below.size), by rw [hF.size]; omega, h.below.size, by have := h.le; omega, e + e, by rw [← sq_pw]; exact hF.cols, ?_⟩
  rw [← hz, show (e + e) * (q / 2) = e * q from by rw [show e * q = e * (q / 2 + q / 2) from by congr 1; omega, Nat.add_mul, Nat.mul_add]]
theorem At.odd {w wr w1 : World} {a c : BitVec 32} {m q g : Nat} (h : At w wr a m q c g) (hq : q % 2 = 1) (e : Nat) (hc : Cols wr g (pw e)) (hz : Crc.zbn (e * q) c = Crc.Z m a) (hF : Filled wr w1 32 (sq (pw e))) : At w w1 a m (q / 2) (Crc.app (pw e) c 32) wr.heap.size := by
  refine ⟨h.below.trans (hF.below.mono h.below.size), by rw [hF.size]; omega, h.below.size, by have := h.le; omega, e + e, by rw [← sq_pw]; exact hF.cols, ?_⟩
  rw [app_pw, ← Crc.zbn_add, ← hz, show e + (e + e) * (q / 2) = e * q from by rw [show e * q = e * (q / 2 + q / 2 + 1) from by congr 1; omega, Nat.add_mul, Nat.mul_add, Nat.mul_add, Nat.mul_one, Nat.add_comm]]

set_option maxHeartbeats 1000000 in
theorem combine_any (na nb : Int) (a b : BitVec 32) (m : Nat) (ha : na = n32 a) (hb : nb = n32 b) (hm : m ≤ 1099511627776) (w : World) :
    Calls Try.prog 21 #[.int .u32 na, .int .u32 nb, .int .i64 m] w fun e w' => e = .returned (.tuple #[.int .u32 (n32 (Crc.combine a b m)), .int .i64 0]) ∧ Below w.heap.size w w' := by
  subst ha hb
  go_enter Try.func21, Try.ntmps21
  go_wp2
  go_loopw [17] (fun i wr => ∃ k : Nat, k ≤ 32 ∧ i = .int .i64 k ∧ Filled w wr k (pw 1)) (fun i _ => 32 - (intOf i).toNat)
  case atStart => exact ⟨0, by omega, rfl, Filled.start _ _ _ rfl⟩
  case round =>
    obtain ⟨k, hk, rfl, hF⟩ := hrel
    by_cases hlt : k < 32
    · obtain ⟨v0, hd⟩ := hF.cell k hlt
      have hfr := hF.frozen k
      have HS := Lib.hid (hF.set hlt)
      have HK := Lib.hid (shl_one k hlt)
      clear hF
      go_wp2_with (go_at_call 33; (with_reducible refine (zeroBit_any _ (1#32 <<< k) HK.out _).mono ?_); rintro e w' ⟨rfl, rfl⟩)
      go_roundw
      case rel => exact ⟨k + 1, by omega, by go_num, HS.out⟩
      case measure => simp [intOf]; omega
    · obtain rfl : k = 32 := by omega
      have HF := Lib.hid hF
      clear hF
      go_wp2_with fail
      refine (squared_any _ (pw 1) _ (by rw [HF.out.size]; omega) HF.out.cols).mono ?_
      rintro e w1 ⟨rfl, hF1⟩
      have HF1 := Lib.hid hF1
      clear hF1
      go_wp2_with fail
      refine (squared_any _ _ _ (by rw [HF1.out.size]; omega) HF1.out.cols).mono ?_
      rintro e w2 ⟨rfl, hF2⟩
      have HF2 := Lib.hid hF2
      clear hF2
      go_wp2_with fail
      refine (squared_any _ _ _ (by rw [HF2.out.size]; omega) HF2.out.cols).mono ?_
      rintro e w3 ⟨rfl, hF3⟩
      have HA : Hid (At w w3 a m m a w2.heap.size) := Lib.hid (by
        have b1 := HF.out.below
        have b2 := b1.trans (HF1.out.below.mono b1.size)
        have b3 := b2.trans (HF2.out.below.mono b2.size)
        have b4 := b3.trans (hF3.below.mono b3.size)
        refine ⟨b4, by rw [hF3.size]; omega, b3.size, Nat.le_refl _, 8, ?_, by unfold Crc.Z; rfl⟩
        have := hF3.cols
        rw [sq_pw, sq_pw, sq_pw] at this
        exact this)
      clear hF3 HF2 HF1 HF
      go_wp2
      go_loopw [0, 2, 10] (fun r i p wr => ∃ (q g : Nat) (c : BitVec 32), i = .int .i64 q ∧ r = .int .u32 (n32 c) ∧ p = .pointer (some ⟨g, 0, none⟩) ∧ At w wr a m q c g) (fun _ i _ _ => (intOf i).toNat)
      case atStart => exact ⟨m, w2.heap.size, a, rfl, rfl, rfl, HA.out⟩
      case round =>
        obtain ⟨q, g, c, rfl, rfl, rfl, hA⟩ := hrel
        have hle := hA.le
        have HB := Lib.hid hA
        by_cases hq : 0 < q
        · obtain ⟨e0, hc0, hz0⟩ := hA.cols
          have hg := hA.hg
          have hodd := odd64 q (by omega)
          have hd := shr_one q
          by_cases ho : q % 2 = 1
          · have c0 : (Go.bits .and .i64 (q : Int) 1 == 1) = true := beq_iff_eq.mpr (by omega)
            clear hA hodd
            have HC := Lib.hid hc0
            have HZ := Lib.hid hz0
            have HO := Lib.hid ho
            have HD := Lib.hid hd
            clear hc0 hz0 ho hd
            go_wp2_with fail
            (with_reducible refine (apply_any g (pw e0) _ c rfl _ HC.out).mono ?_)
            rintro e w' ⟨rfl, rfl⟩
            go_wp2_with fail
            (with_reducible refine (squared_any g (pw e0) _ hg HC.out).mono ?_)
            rintro e w4 ⟨rfl, hF4⟩
            have HF4 := Lib.hid hF4
            clear hF4
            go_wp2
            go_roundw
            case rel => exact ⟨q / 2, _, _, by rw [shr_one], rfl, rfl, HB.out.odd HO.out e0 HC.out HZ.out HF4.out⟩
            case measure => simp [intOf]; omega
          · have c0 : (Go.bits .and .i64 (q : Int) 1 == 1) = false := beq_eq_false_iff_ne.mpr (by omega)
            clear hA hodd
            have HC := Lib.hid hc0
            have HZ := Lib.hid hz0
            have HO : Hid (q % 2 = 0) := Lib.hid (by omega)
            have HD := Lib.hid hd
            clear hc0 hz0 ho hd
            go_wp2_with fail
            (with_reducible refine (squared_any g (pw e0) _ hg HC.out).mono ?_)
            rintro e w4 ⟨rfl, hF4⟩
            have HF4 := Lib.hid hF4
            clear hF4
            go_wp2
            go_roundw
            case rel => exact ⟨q / 2, _, _, by rw [shr_one], rfl, rfl, HB.out.even HO.out e0 HC.out HZ.out HF4.out⟩
            case measure => simp [intOf]; omega
        · clear hA
          go_wp2
          go_ret2
          refine ⟨?_, HB.out.below⟩
          obtain ⟨e0, hc0, hz0⟩ := HB.out.cols
          have : c = Crc.Z m a := by rw [← hz0, show q = 0 from by omega]; rfl
          rw [this, xor32]
          rfl

end Go.Proofs.Ytigilgkgkjkebaa
