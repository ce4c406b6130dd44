/- Walk of the law ChecksumDetects. -/
import Derived.Test.YtigilgkgkjkebaaW6
import Derived.Lib.ConvBytes
import Derived.Laws.BytesArg
import Derived.Deep.RegionWith
import Derived.Deep.DeepCutAuto
import Derived.Deep.CutBlock
namespace Go.Proofs.Ytigilgkgkjkebaa
open Go.RowKit
set_option linter.unusedVariables false
set_option linter.unusedSimpArgs false

/-- Four blocks lie behind w: the change's two numbers, three numbers, and two rows of bytes. -/
structure DW (w W : World) (at' : Nat) (bits : BitVec 32) (b0 b1 b2 : Nat) (la lb : List UInt8) : Prop where
  below : Below w.heap.size w W
  size : W.heap.size = w.heap.size + 4
  c0 : W.cell? ⟨w.heap.size, 0, none⟩ = some (.int .u16 at')
  c1 : W.cell? ⟨w.heap.size, 1, none⟩ = some (.int .u32 (n32 bits))
  d0 : W.cell? ⟨w.heap.size + 1, 0, none⟩ = some (.int .u16 b0)
  d1 : W.cell? ⟨w.heap.size + 1, 1, none⟩ = some (.int .u16 b1)
  d2 : W.cell? ⟨w.heap.size + 1, 2, none⟩ = some (.int .u16 b2)
  ra : Row8 W (w.heap.size + 2) la
  rb : Row8 W (w.heap.size + 3) lb

theorem Row8.made (W : World) (s : ByteArray) : Row8 (Lib.bytesWorld W 5 s) W.heap.size s.data.toList := by
  refine ⟨fun i hi => ?_, fun i hi => ?_⟩
  · rw [Array.length_toList] at hi
    exact Lib.bytesWorld_cell W 5 s i hi
  · rw [Array.length_toList] at hi
    have hz : s.size ≤ (Lib.bytesCells W 5 s).size := by unfold Lib.bytesCells; simp
    have hs : s.data.size = s.size := rfl
    simp only [World.frozen?, Lib.bytesWorld_at_new]
    simp
    omega
theorem DW.a {w W W' : World} {a : Nat} {bits : BitVec 32} {b0 b1 b2 : Nat} {la lb la' : List UInt8} (h : DW w W a bits b0 b1 b2 la lb) (k : But W W' (w.heap.size + 2)) (r : Row8 W' (w.heap.size + 2) la') : DW w W' a bits b0 b1 b2 la' lb :=
  ⟨h.below.trans (k.below (by omega)), k.size.trans h.size, (k.cell (by omega)).trans h.c0, (k.cell (by omega)).trans h.c1, (k.cell (by omega)).trans h.d0, (k.cell (by omega)).trans h.d1, (k.cell (by omega)).trans h.d2, r, h.rb.other (by omega) k⟩
theorem DW.b {w W W' : World} {a : Nat} {bits : BitVec 32} {b0 b1 b2 : Nat} {la lb lb' : List UInt8} (h : DW w W a bits b0 b1 b2 la lb) (k : But W W' (w.heap.size + 3)) (r : Row8 W' (w.heap.size + 3) lb') : DW w W' a bits b0 b1 b2 la lb' :=
  ⟨h.below.trans (k.below (by omega)), k.size.trans h.size, (k.cell (by omega)).trans h.c0, (k.cell (by omega)).trans h.c1, (k.cell (by omega)).trans h.d0, (k.cell (by omega)).trans h.d1, (k.cell (by omega)).trans h.d2, h.ra.other (by omega) k, r⟩
theorem DW.drew {w W : World} {a : Nat} {bits : BitVec 32} {b0 b1 b2 : Nat} {la lb : List UInt8} (h : DW w W a bits b0 b1 b2 la lb) (n : Nat) : DW w (W.drewN n) a bits b0 b1 b2 la lb :=
  ⟨h.below.trans ⟨rfl, rfl, rfl, Nat.le_refl _, fun _ _ => rfl⟩, h.size, h.c0, h.c1, h.d0, h.d1, h.d2, ⟨h.ra.cell, h.ra.free⟩, ⟨h.rb.cell, h.rb.free⟩⟩
theorem bytes_below (W : World) (s : ByteArray) : Below W.heap.size W (Lib.bytesWorld W 5 s) :=
  ⟨rfl, rfl, rfl, by rw [Lib.bytesWorld_size]; omega, fun j hj => Lib.bytesWorld_at_old W 5 s j hj⟩
theorem Row8.below {W W' : World} {g : Nat} {l : List UInt8} (h : Row8 W g l) (hg : g < W.heap.size) (k : Below W.heap.size W W') : Row8 W' g l :=
  ⟨fun i hi => (k.cell (p := ⟨g, i, none⟩) hg).trans (h.cell i hi), fun i hi => (k.frozen (p := ⟨g, i, none⟩) hg).trans (h.free i hi)⟩
theorem DW.start (w : World) (a : Nat) (bits : BitVec 32) (b0 b1 b2 : Nat) (s : ByteArray) :
    DW w (Lib.bytesWorld (Lib.bytesWorld ((w.alloc (.cells #[.int .u16 a, .int .u32 (n32 bits)] 41)).alloc (.cells #[.int .u16 b0, .int .u16 b1, .int .u16 b2] 42)) 5 s) 5 s) a bits b0 b1 b2 s.data.toList s.data.toList := by
  have h1 := heap_alloc_new w (.cells #[.int .u16 a, .int .u32 (n32 bits)] 41)
  have h2 := heap_alloc_new (w.alloc (.cells #[.int .u16 a, .int .u32 (n32 bits)] 41)) (.cells #[.int .u16 b0, .int .u16 b1, .int .u16 b2] 42)
  have l1 : (w.alloc (.cells #[.int .u16 a, .int .u32 (n32 bits)] 41)).heap.size = w.heap.size + 1 := by simp
  have bl : Below w.heap.size w (w.alloc (.cells #[.int .u16 a, .int .u32 (n32 bits)] 41)) := (Below.refl _ _).alloc (Nat.le_refl _) _
  generalize w.alloc (.cells #[.int .u16 a, .int .u32 (n32 bits)] 41) = W1 at *
  have l2 : (W1.alloc (.cells #[.int .u16 b0, .int .u16 b1, .int .u16 b2] 42)).heap.size = w.heap.size + 2 := by simp; omega
  have h1' : (W1.alloc (.cells #[.int .u16 b0, .int .u16 b1, .int .u16 b2] 42)).heap[w.heap.size]? = some (.cells #[.int .u16 a, .int .u32 (n32 bits)] 41 (0, 0)) := (Below.heap_alloc _ _ _ (by omega)).trans h1
  have bl2 : Below w.heap.size w (W1.alloc (.cells #[.int .u16 b0, .int .u16 b1, .int .u16 b2] 42)) := bl.alloc (by omega) _
  rw [l1] at h2
  generalize W1.alloc (.cells #[.int .u16 b0, .int .u16 b1, .int .u16 b2] 42) = W2 at *
  have k3 := bytes_below W2 s
  have r3 := Row8.made W2 s
  have l3 := Lib.bytesWorld_size W2 5 s
  generalize Lib.bytesWorld W2 5 s = W3 at *
  have k4 := bytes_below W3 s
  have r4 := Row8.made W3 s
  have l4 := Lib.bytesWorld_size W3 5 s
  generalize Lib.bytesWorld W3 5 s = W4 at *
  have k24 : Below W2.heap.size W2 W4 := k3.trans (k4.mono (by omega))
  have c1 : ∀ i v, (#[Value.int .u16 a, .int .u32 (n32 bits)])[i]? = some v → W4.cell? ⟨w.heap.size, i, none⟩ = some v := fun i v hv => by
    rw [k24.cell (p := ⟨w.heap.size, i, none⟩) (by show w.heap.size < W2.heap.size; omega), cell_of_row _ _ i _ _ _ h1', hv]
  have c2 : ∀ i v, (#[Value.int .u16 b0, .int .u16 b1, .int .u16 b2])[i]? = some v → W4.cell? ⟨w.heap.size + 1, i, none⟩ = some v := fun i v hv => by
    rw [k24.cell (p := ⟨w.heap.size + 1, i, none⟩) (by show w.heap.size + 1 < W2.heap.size; omega), cell_of_row _ _ i _ _ _ h2, hv]
  refine ⟨bl2.trans (k24.mono (by omega)), by omega, c1 0 _ rfl, c1 1 _ rfl, c2 0 _ rfl, c2 1 _ rfl, c2 2 _ rfl, ?_, ?_⟩
  · rw [← l2]; exact r3.below (by omega) k4
  · rw [show w.heap.size + 3 = W3.heap.size from by omega]; exact r4

theorem bitk2 (c : BitVec 32) (k : Nat) : (n32 c / 2 ^ k).tmod 2 = if c.getLsbD k then 1 else 0 := by
  rw [Int.tmod_eq_emod_of_nonneg (by rw [shr32]; exact (n32_lt _).1)]
  rw [shr32]
  unfold n32
  have e : c.getLsbD k = (c >>> k).toNat.testBit 0 := by
    rw [← BitVec.getLsbD, BitVec.getLsbD_ushiftRight]; rfl
  rw [e, Nat.testBit_zero]
  by_cases h : (c >>> k).toNat % 2 = 1
  · rw [if_pos (decide_eq_true h)]; omega
  · rw [if_neg (by rw [decide_eq_false h]; simp)]; omega

theorem flips_size (s : ByteArray) (a : Nat) (b : BitVec 32) (k : Nat) : s.size = (Crc.flips s.data.toList a b k).length := by rw [Crc.flips_length, Array.length_toList]; rfl
theorem flips_le (s : ByteArray) (hs : s.size ≤ 500) (a : Nat) (b : BitVec 32) (k : Nat) : (Crc.flips s.data.toList a b k).length ≤ 500 := by rw [← flips_size]; exact hs
theorem three_len (l : List UInt8) (x y z k : Nat) (hk : k ≤ 3) : (Crc.three l x y z k).length = l.length := by
  match k, hk with
  | 0, _ => rfl
  | 1, _ => exact Crc.fl_length _ _
  | 2, _ => simp only [Crc.three, Crc.fl2]; split <;> simp [Crc.fl_length]
  | 3, _ => exact Crc.three_length _ _ _ _
theorem three0 (l : List UInt8) (x y z : Nat) : Crc.three l x y z 1 = Crc.fl (Crc.three l x y z 0) x := rfl
theorem three1n (l : List UInt8) (x y z : Nat) (h : y = x) : Crc.three l x y z 2 = Crc.three l x y z 1 := by simp only [Crc.three, Crc.fl2]; rw [if_pos h]
theorem three1y (l : List UInt8) (x y z : Nat) (h : ¬ y = x) : Crc.three l x y z 2 = Crc.fl (Crc.three l x y z 1) y := by simp only [Crc.three, Crc.fl2]; rw [if_neg h]
theorem three2n (l : List UInt8) (x y z : Nat) (h : z = x ∨ z = y) : Crc.three l x y z 3 = Crc.three l x y z 2 := by simp only [Crc.three, Crc.fl3]; rw [if_pos h]
theorem three2y (l : List UInt8) (x y z : Nat) (h : ¬ (z = x ∨ z = y)) : Crc.three l x y z 3 = Crc.fl (Crc.three l x y z 2) z := by simp only [Crc.three, Crc.fl3]; rw [if_neg h]
theorem three_size (s : ByteArray) (x y z k : Nat) (hk : k ≤ 3) : s.size = (Crc.three s.data.toList x y z k).length := by rw [three_len _ _ _ _ _ hk, Array.length_toList]; rfl
theorem three_le (s : ByteArray) (hs : s.size ≤ 500) (x y z k : Nat) (hk : k ≤ 3) : (Crc.three s.data.toList x y z k).length ≤ 500 := by rw [← three_size _ _ _ _ _ hk]; exact hs

theorem strOf (l : List UInt8) : strOfNums (l.map fun b => (b.toNat : Int)) = ⟨l.toArray⟩ := by
  have h := strOfNums_data (l.map fun b => (b.toNat : Int))
  rw [List.map_map] at h
  have h2 : (l.map ((fun n : Int => UInt8.ofNat n.toNat) ∘ fun b : UInt8 => (b.toNat : Int))) = l := by
    conv => rhs; rw [← List.map_id l]
    apply List.map_congr_left
    intro b _
    simp
  rw [h2] at h
  cases hs : strOfNums (l.map fun b => (b.toNat : Int)) with
  | mk d =>
    rw [hs] at h
    show ByteArray.mk d = _
    rw [← h]
/-- The string of some bytes. -/
def str (l : List UInt8) : ByteArray := ⟨l.toArray⟩
theorem str_toList (l : List UInt8) : (str l).toList = l := by rw [ByteArray.toList_eq]; simp [str]
theorem data_toList (s : ByteArray) : s.toList = s.data.toList := ByteArray.toList_eq s
theorem Row8.conv {W : World} {g : Nat} {l : List UInt8} (h : Row8 W g l) (n cap : Nat) (hn : n = l.length) : (convert 43 9 (.slice (some ⟨g, 0, none⟩) n cap)).run Try.prog W = .ok (.string (str l)) W := by
  subst hn
  unfold str
  rw [← strOf]
  refine run_convert_bytes_arg W 43 5 Try.underlying43 Try.underlying5 g 0 l.length cap (l.map fun b => (b.toNat : Int)) (by simp) (fun i hi => ?_) 9 Try.underlying9
  rw [Nat.zero_add, h.cell i hi]
  simp [List.getD_eq_getElem?_getD, hi]
theorem eq_sides (A : List UInt8) (s : ByteArray) (h : Crc.sum A = Crc.sum s.data.toList → A = s.data.toList) :
    ((n32 (Crc.sum A) == n32 (Crc.sum s.data.toList)) = true ∧ ((str A).toList == s.toList) = true) ∨ ((n32 (Crc.sum A) == n32 (Crc.sum s.data.toList)) = false ∧ ((str A).toList == s.toList) = false) := by
  rw [str_toList, data_toList]
  by_cases e : A = s.data.toList
  · exact .inl ⟨by rw [e]; simp, by rw [e]; simp⟩
  · exact .inr ⟨by rw [beq_eq_false_iff_ne]; intro h'; exact e (h (n32_inj h')), by rw [beq_eq_false_iff_ne]; exact e⟩
theorem sum_list (l : List UInt8) (hl : l.length ≤ 500) (w : World) : Calls Try.prog 17 #[.string (str l)] w fun e w' => e = .returned (.int .u32 (n32 (Crc.sum l))) ∧ w = w' :=
  sum_any (str l) (by unfold maxLen str; show l.toArray.size ≤ _; simp; omega) w
theorem DW.keep {w W W' : World} {a : Nat} {bits : BitVec 32} {b0 b1 b2 : Nat} {la lb : List UInt8} (h : DW w W a bits b0 b1 b2 la lb) (k : Below W.heap.size W W') : Below w.heap.size w W' ∧ Row8 W' (w.heap.size + 2) la ∧ Row8 W' (w.heap.size + 3) lb :=
  have hs := h.size
  ⟨h.below.trans (k.mono h.below.size), h.ra.below (by omega) k, h.rb.below (by omega) k⟩

/-- The class of worlds in which the law's last statement stands. -/
structure Cls (w : World) (la lb : List UInt8) (W : World) : Prop where
  below : Below w.heap.size w W
  size : w.heap.size + 4 ≤ W.heap.size
  ra : Row8 W (w.heap.size + 2) la
  rb : Row8 W (w.heap.size + 3) lb
theorem Cls.of {w W : World} {a : Nat} {bits : BitVec 32} {b0 b1 b2 : Nat} {la lb : List UInt8} (h : DW w W a bits b0 b1 b2 la lb) : Cls w la lb W := ⟨h.below, Nat.le_of_eq h.size.symm, h.ra, h.rb⟩
theorem Cls.keep {w W W' : World} {la lb : List UInt8} (h : Cls w la lb W) (k : Below W.heap.size W W') : Cls w la lb W' :=
  have hs := h.size
  have ks := k.size
  ⟨h.below.trans (k.mono h.below.size), by omega, h.ra.below (by omega) k, h.rb.below (by omega) k⟩
theorem wp_region_quiet_lit' {P : Program} {C : World → Prop} {id : Nat} {Q : Exit → Act → World → Prop} {a : Act} {w : World} {l : List Oper} (hm : P.follows .mixedOrders = true) (hB : Region.lexB .any l.toArray = true) (hC : C (w.drewN 1))
    (h : wpQuiet P l.toArray C (fun a' => ∀ w', C w' → Q .normal a' w') l a) : (Code.region id l.toArray true).wp P Q a w :=
  wp_region_quiet (C := C) hm hB hC (by simpa using h)

set_option maxRecDepth 100000 in
set_option maxHeartbeats 4000000 in
theorem detects_walk (a0 : ByteArray) (a : Nat) (bits : BitVec 32) (b0 b1 b2 : Nat) (w0 : a0.size ≤ 140737488351232) (ha : a ≤ 65535) (h0 : b0 ≤ 65535) (h1 : b1 ≤ 65535) (h2 : b2 ≤ 65535) (w : World) :
    Calls Try.prog 8 #[.string a0, .agg #[.int .u16 a, .int .u32 (n32 bits)], .agg #[.int .u16 b0, .int .u16 b1, .int .u16 b2]] w fun e w' => e = .returned (.bool true) ∧ Below w.heap.size w w' := by
  go_enter Try.func8, Try.ntmps8
  go_upto_region 1 with fail
  go_cut [0] (fun s0 wx => ∃ s : ByteArray, s.size ≤ 500 ∧ s0 = .string s ∧ wx = (w.alloc (.cells #[.int .u16 a, .int .u32 (n32 bits)] 41)).alloc (.cells #[.int .u16 b0, .int .u16 b1, .int .u16 b2] 42))
  case first =>
    by_cases hc : 500 < a0.size
    · go_wp2
      go_meet
      exact ⟨a0.extract 0 500, by simp; omega, rfl, rfl⟩
    · go_wp2
      go_meet
      exact ⟨a0, by omega, rfl, rfl⟩
  case rest =>
    obtain ⟨s, hs, rfl, rfl⟩ := hcut
    have HS : Hid (s.size ≤ maxLen) := Lib.hid (by unfold maxLen; omega)
    have HD := Lib.hid (DW.start w a bits b0 b1 b2 s)
    have kb := fun W => Lib.run_convert_string_bytes (P := Try.prog) W 9 43 5 s Try.underlying9 Try.underlying43 Try.underlying5
    clear w0
    go_wp2
    clear kb
    rw [Lib.bytesWorld_size]
    generalize grownCap (Lib.bytesWorld _ _ _) _ _ _ = cap2
    generalize grownCap _ _ _ _ = cap1
    have hD := HD.out
    simp only [World.size_alloc, Nat.add_assoc, Nat.reduceAdd]
    generalize Lib.bytesWorld (Lib.bytesWorld _ _ _) _ _ = W at *
    have HDD := Lib.hid hD
    clear hD HD
    go_loopw [9] (fun i wr => ∃ k : Nat, k ≤ 32 ∧ i = .int .i64 k ∧ DW w wr a bits b0 b1 b2 (Crc.flips s.data.toList a bits k) s.data.toList) (fun i _ => 32 - (intOf i).toNat)
    case atStart => exact ⟨0, by omega, rfl, HDD.out⟩
    case round =>
      clear HDD
      obtain ⟨k, hk, rfl, hR⟩ := hrel
      by_cases hlt : k < 32
      · have hb := bitk2 bits k
        have hf : Crc.flips s.data.toList a bits (k + 1) = if bits.getLsbD k then Crc.fl (Crc.flips s.data.toList a bits k) (a + k) else Crc.flips s.data.toList a bits k := rfl
        have f1 := hR.c1
        have f0 := hR.c0
        have HR := Lib.hid hR
        clear hR
        cases hg : bits.getLsbD k with
        | true =>
          rw [hg, if_pos rfl] at hb hf
          have c0 : ((n32 bits / 2 ^ k).tmod 2 == 1) = true := beq_iff_eq.mpr hb
          have HF := Lib.hid hf
          have HP : Hid (((a : Int) + (k : Int)) = ((a + k : Nat) : Int)) := Lib.hid (by omega)
          clear hb hf hg
          go_wp2_with fail
          rw [HP.out]
          (with_reducible refine (flip_any _ _ _ _ (a + k) (flips_size s a bits k) (flips_le s hs a bits k) (by omega) _ HR.out.ra).mono ?_)
          rintro e W1 ⟨rfl, hrow, hbut⟩
          have HN := Lib.hid (HR.out.a hbut hrow)
          clear hrow hbut f0 f1 HR
          go_wp2
          go_roundw
          case rel => exact ⟨k + 1, by omega, by go_num, by rw [HF.out]; exact HN.out⟩
          case measure => simp [intOf]; omega
        | false =>
          rw [hg] at hb hf
          simp only [Bool.false_eq_true, if_false] at hb hf
          have c0 : ((n32 bits / 2 ^ k).tmod 2 == 1) = false := beq_eq_false_iff_ne.mpr (by omega)
          have HF := Lib.hid hf
          clear hb hf hg
          go_wp2
          go_roundw
          case rel => exact ⟨k + 1, by omega, by go_num, by rw [HF.out]; exact HR.out⟩
          case measure => simp [intOf]; omega
      · obtain rfl : k = 32 := by omega
        have HR := Lib.hid hR
        clear hR
        go_wp2
        go_loopw [10] (fun i wr => ∃ k : Nat, k ≤ 3 ∧ i = .int .i64 k ∧ DW w wr a bits b0 b1 b2 (Crc.flips s.data.toList a bits 32) (Crc.three s.data.toList b0 b1 b2 k)) (fun i _ => 3 - (intOf i).toNat)
        case atStart => exact ⟨0, by omega, rfl, HR.out⟩
        case round =>
          clear HR
          obtain ⟨k, hk, rfl, hR⟩ := hrel
          have f0 := hR.d0
          have f1 := hR.d1
          have f2 := hR.d2
          have HR := Lib.hid hR
          clear hR
          rcases (show k = 0 ∨ k = 1 ∨ k = 2 ∨ k = 3 by omega) with rfl | rfl | rfl | rfl
          · skip
            simp only [Int.cast_ofNat_Int]
            go_wp2_with fail
            go_quiet (fail)
            have HN := Lib.hid (HR.out.drew nq)
            clear HR
            go_wp2_with fail
            (with_reducible refine (flip_any _ _ _ _ b0 (three_size s b0 b1 b2 0 (by omega)) (three_le s hs b0 b1 b2 0 (by omega)) (by omega) _ HN.out.rb).mono ?_)
            rintro e W1 ⟨rfl, hrow, hbut⟩
            have HM := Lib.hid (HN.out.b hbut hrow)
            clear hrow hbut HN f0 f1 f2
            go_wp2
            go_roundw
            case rel => exact ⟨1, by omega, by go_num, by rw [three0]; exact HM.out⟩
            case measure => simp [intOf]
          · by_cases e1 : b1 = b0
            · have g1 : ((b1 : Int) != (b0 : Int)) = false := by rw [e1]; simp
              have E1 := Lib.hid e1
              clear e1
              simp only [Int.cast_ofNat_Int]
              go_wp2_with fail
              go_quiet (fail)
              have HN := Lib.hid (HR.out.drew nq)
              clear HR f0 f1 f2
              go_wp2
              go_roundw
              case rel => exact ⟨2, by omega, by go_num, by rw [three1n _ _ _ _ E1.out]; exact HN.out⟩
              case measure => simp [intOf]
            · have g1 : ((b1 : Int) != (b0 : Int)) = true := by rw [bne_iff_ne]; omega
              have E1 := Lib.hid e1
              clear e1
              simp only [Int.cast_ofNat_Int]
              go_wp2_with fail
              go_quiet (fail)
              have HN := Lib.hid (HR.out.drew nq)
              clear HR
              go_wp2_with fail
              (with_reducible refine (flip_any _ _ _ _ b1 (three_size s b0 b1 b2 1 (by omega)) (three_le s hs b0 b1 b2 1 (by omega)) (by omega) _ HN.out.rb).mono ?_)
              rintro e W1 ⟨rfl, hrow, hbut⟩
              have HM := Lib.hid (HN.out.b hbut hrow)
              clear hrow hbut HN f0 f1 f2
              go_wp2
              go_roundw
              case rel => exact ⟨2, by omega, by go_num, by rw [three1y _ _ _ _ E1.out]; exact HM.out⟩
              case measure => simp [intOf]
          · by_cases e1 : b2 = b0
            · have g1 : ((b2 : Int) != (b0 : Int)) = false := by rw [e1]; simp
              have E1 := Lib.hid (show b2 = b0 ∨ b2 = b1 from .inl e1)
              clear e1
              simp only [Int.cast_ofNat_Int]
              go_wp2_with fail
              go_quiet (fail)
              have HN := Lib.hid (HR.out.drew nq)
              clear HR f0 f1 f2
              go_wp2
              go_roundw
              case rel => exact ⟨3, by omega, by go_num, by rw [three2n _ _ _ _ E1.out]; exact HN.out⟩
              case measure => simp [intOf]
            · have g1 : ((b2 : Int) != (b0 : Int)) = true := by rw [bne_iff_ne]; omega
              by_cases e2 : b2 = b1
              · have g2 : ((b2 : Int) != (b1 : Int)) = false := by rw [e2]; simp
                have E1 := Lib.hid (show b2 = b0 ∨ b2 = b1 from .inr e2)
                clear e1 e2
                simp only [Int.cast_ofNat_Int]
                go_wp2_with fail
                go_quiet (fail)
                have HN := Lib.hid (HR.out.drew nq)
                clear HR f0 f1 f2
                go_wp2
                go_roundw
                case rel => exact ⟨3, by omega, by go_num, by rw [three2n _ _ _ _ E1.out]; exact HN.out⟩
                case measure => simp [intOf]
              · have g2 : ((b2 : Int) != (b1 : Int)) = true := by rw [bne_iff_ne]; omega
                have E1 := Lib.hid (show ¬ (b2 = b0 ∨ b2 = b1) by omega)
                clear e1 e2
                simp only [Int.cast_ofNat_Int]
                go_wp2_with fail
                go_quiet (fail)
                have HN := Lib.hid (HR.out.drew nq)
                clear HR
                go_wp2_with fail
                (with_reducible refine (flip_any _ _ _ _ b2 (three_size s b0 b1 b2 2 (by omega)) (three_le s hs b0 b1 b2 2 (by omega)) (by omega) _ HN.out.rb).mono ?_)
                rintro e W1 ⟨rfl, hrow, hbut⟩
                have HM := Lib.hid (HN.out.b hbut hrow)
                clear hrow hbut HN f0 f1 f2
                go_wp2
                go_roundw
                case rel => exact ⟨3, by omega, by go_num, by rw [three2y _ _ _ _ E1.out]; exact HM.out⟩
                case measure => simp [intOf]
          · clear f0 f1 f2
            simp only [Int.cast_ofNat_Int]
            go_wp2_with fail
            (with_reducible refine (sum_any s HS.out _).mono ?_)
            rintro e W1 ⟨rfl, rfl⟩
            go_wp2_with fail
            have HL1 := Lib.hid (flips_le s hs a bits 32)
            have HL2 := Lib.hid (three_le s hs b0 b1 b2 3 (by omega))
            have hA := eq_sides _ _ (Crc.flips_found s.data.toList a bits)
            have hB := eq_sides _ _ (Crc.three_found s.data.toList b0 b1 b2 (by rw [Array.length_toList]; exact Nat.le_trans hs (by omega)))
            have HC := Lib.hid (Cls.of (HR.out.drew 1))
            clear HR
            have kc1 := fun (W' : World) (h : Cls w (Crc.flips s.data.toList a bits 32) (Crc.three s.data.toList b0 b1 b2 3) W') => h.ra.conv s.size cap1 (flips_size s a bits 32)
            have kc2 := fun (W' : World) (h : Cls w (Crc.flips s.data.toList a bits 32) (Crc.three s.data.toList b0 b1 b2 3) W') => h.rb.conv s.size cap2 (three_size s b0 b1 b2 3 (by omega))
            rcases hA with ⟨x1, x2⟩ | ⟨x1, x2⟩ <;> rcases hB with ⟨y1, y2⟩ | ⟨y1, y2⟩
            all_goals
              refine wp_region_quiet_lit' (C := Cls w (Crc.flips s.data.toList a bits 32) (Crc.three s.data.toList b0 b1 b2 3)) (by kernel_rfl) (by kernel_rfl) HC.out ?_
              iterate 26
                refine wpQuiet_step (fun K hK => ?_)
                go_simp
                first
                  | (refine hK _ ?_; clear hK K)
                  | (refine ⟨_, fun _ _ => rfl, hK _ ?_⟩; clear hK K)
                  | (refine ⟨.string (str (Crc.flips s.data.toList a bits 32)), fun W' hW' => (by rw [kc1 W' hW']; exact ⟨rfl, rfl⟩), hK _ ?_⟩; clear hK K)
                  | (refine ⟨.string (str (Crc.three s.data.toList b0 b1 b2 3)), fun W' hW' => (by rw [kc2 W' hW']; exact ⟨rfl, rfl⟩), hK _ ?_⟩; clear hK K)
                  | (refine ⟨_, fun W' hW' => (known_any W').mono (fun e w' h => ⟨h.1, hW'.keep h.2⟩), hK _ ?_⟩; clear hK K)
                  | (refine ⟨_, fun W' hW' => (sum_list _ HL1.out W').mono (fun e w' h => ⟨h.1, h.2 ▸ hW'⟩), hK _ ?_⟩; clear hK K)
                  | (refine ⟨_, fun W' hW' => (sum_list _ HL2.out W').mono (fun e w' h => ⟨h.1, h.2 ▸ hW'⟩), hK _ ?_⟩; clear hK K)
              refine wpQuiet_nil ?_
              intro W' hW'
              have HB := Lib.hid hW'.below
              clear hW' kc1 kc2 HC
              go_wp2
              go_ret
              exact ⟨by first | rfl | simp, HB.out⟩

end Go.Proofs.Ytigilgkgkjkebaa
