/- Walk of the law ChecksumAlters. -/
import Derived.Test.YtigilgkgkjkebaaAlt
import Derived.Test.YtigilgkgkjkebaaGoDetects
import Derived.BigRegion
namespace Go.Proofs.Ytigilgkgkjkebaa
open Go.RowKit Go.Proofs.YtigilgkgkjkebaaW.PrintWords
set_option linter.unusedVariables false
set_option linter.unusedSimpArgs false

/-- The box of the two numbers, and the records. -/
structure AW (w : World) (x y : Nat) (l : List ByteArray) (A : Option Addr) (W : World) : Prop where
  below : Below w.heap.size w W
  lt : w.heap.size < W.heap.size
  c0 : W.cell? ⟨w.heap.size, 0, none⟩ = some (.int .u8 x)
  c1 : W.cell? ⟨w.heap.size, 1, none⟩ = some (.int .u8 y)
  rs : RdS W A l
theorem AW.keep {w W W' : World} {x y : Nat} {l : List ByteArray} {A : Option Addr} (h : AW w x y l A W) (k : Below W.heap.size W W') : AW w x y l A W' :=
  ⟨h.below.trans (k.mono h.below.size), Nat.lt_of_lt_of_le h.lt k.size, (k.cell (p := ⟨_, 0, none⟩) h.lt).trans h.c0, (k.cell (p := ⟨_, 1, none⟩) h.lt).trans h.c1, h.rs.below k⟩
theorem AW.start {w W : World} {x y : Nat} {l : List ByteArray} {A : Option Addr} (k : Below (w.alloc (.cells #[.int .u8 x, .int .u8 y] 59)).heap.size (w.alloc (.cells #[.int .u8 x, .int .u8 y] 59)) W) (hr : RdS W A l) : AW w x y l A W := by
  have h := heap_alloc_new w (.cells #[.int .u8 x, .int .u8 y] 59)
  have hs : (w.alloc (.cells #[.int .u8 x, .int .u8 y] 59)).heap.size = w.heap.size + 1 := by simp
  have hb : Below w.heap.size w (w.alloc (.cells #[.int .u8 x, .int .u8 y] 59)) := (Below.refl _ _).alloc (Nat.le_refl _) _
  have ks := k.size
  exact ⟨hb.trans (k.mono (by omega)), by omega, (k.cell (p := ⟨w.heap.size, 0, none⟩) (by show w.heap.size < _; omega)).trans (cell_of_row _ _ _ _ _ _ h), (k.cell (p := ⟨w.heap.size, 1, none⟩) (by show w.heap.size < _; omega)).trans (cell_of_row _ _ _ _ _ _ h), hr⟩

theorem reads_of_rds {W : World} {A : Option Addr} {l : List ByteArray} (h : RdS W A l) (hl : l.length ≤ 8) : ReadsOf Value.string ByteArray.empty W A l.length l := by
  refine ⟨rfl, by omega, fun hn => ?_⟩
  obtain ⟨ad, rfl, _⟩ := h 0 hn
  refine ⟨ad, rfl, fun j hj => ?_⟩
  obtain ⟨ad', e, hc⟩ := h j hj
  cases e
  exact hc

theorem own_some {W : World} {B e n : Nat} {v : Value} {xs : List Value} (h : W.ownsRow B e 1 v n xs) (hn : 1 ≤ n) : ∃ g cap, v = .slice (some ⟨g, 0, none⟩) n cap ∧ B ≤ g ∧ g < W.heap.size := by
  rcases h.2 with ⟨_, rfl⟩ | ⟨g, cap, cur, rfl, hg, hh, _⟩
  · omega
  · exact ⟨g, cap, rfl, hg, (Array.getElem?_eq_some_iff.1 hh).1⟩

theorem str_size (l : List UInt8) : (str l).size = l.length := by simp [str, ByteArray.size]
theorem str_data (l : List UInt8) : (str l).data.toList = l := by simp [str]
theorem xor_fix {a z : UInt8} (h : a = a ^^^ z) : z = 0 := by
  have : a ^^^ a = a ^^^ (a ^^^ z) := by rw [← h]
  rw [← UInt8.xor_assoc, UInt8.xor_self, UInt8.zero_xor] at this
  exact this.symm
theorem chain_n (A : Option Addr) (c n : Nat) (l : List ByteArray) (hn : n = l.length) (hl : l.length ≤ 8) (hz : ∀ i, i < l.length → (gs l i).size ≤ 40) (w : World) (hr : RdS w A l) :
    Calls Try.prog 28 #[.slice A n c] w fun e w' => ∃ A' c', e = .returned (.slice A' n c') ∧ RdU w' A' (chainL l) ∧ Below w.heap.size w w' := by
  subst hn; exact chain_any A c l hl hz w hr
theorem verify_n (A B : Option Addr) (c d n m : Nat) (l : List ByteArray) (u : List (BitVec 32)) (hm : m = l.length) (hn : n = u.length) (hl : l.length ≤ 8) (hu : u.length ≤ maxLen) (hz : ∀ i, i < l.length → (gs l i).size ≤ 40) (w : World) (hr : RdS w A l) (hq : RdU w B u) :
    Calls Try.prog 31 #[.slice A m c, .slice B n d] w fun e w' => ∃ (i : Nat) (ok : Bool), e = .returned (.tuple #[.int .i64 i, .bool ok]) ∧ Verified l u i ok ∧ Below w.heap.size w w' := by
  subst hm; exact verify_any A B c d n l u hn hl hu hz w hr hq

set_option maxRecDepth 100000 in
set_option maxHeartbeats 4000000 in
theorem alters_walk (A : Option Addr) (c : Nat) (l0 : List ByteArray) (x y : Nat) (z : UInt8) (hx : x ≤ 255) (hy : y ≤ 255) (hl0 : l0.length ≤ maxLen) (w : World) (hr : Kd.C Kd.string w A l0.length l0) (hc : l0.length ≤ c) :
    Calls Try.prog 12 #[.slice A l0.length c, .agg #[.int .u8 x, .int .u8 y], .int .u8 z.toNat] w fun e w' => e = .returned (.bool true) ∧ Below w.heap.size w w' := by
  have HR : Hid (Kd.C Kd.string (w.alloc (.cells #[.int .u8 x, .int .u8 y] 59)) A l0.length l0) := Lib.hid (Kd.C_below hr ((Below.refl _ _).alloc (Nat.le_refl _) _))
  have HL0 : Hid (l0.length ≤ 9223372036854775807) := Lib.hid (by unfold maxLen at hl0; omega)
  have HC := Lib.hid hc
  clear hr hc hl0
  go_enter Try.func12, Try.ntmps12
  go_wp2_with fail
  (with_reducible refine (few_any A c l0 HL0.out _ HR.out HC.out).mono ?_)
  rintro e w1 ⟨A', c', rfl, hr1, hb1⟩
  have hl := few_len l0
  have HZ := Lib.hid (few_size l0)
  have HW := Lib.hid (AW.start hb1 hr1)
  clear HR HL0 HC hr1 hb1
  generalize fewL l0 = l at *
  by_cases hl1 : l.length = 0
  · have g0 : ((l.length : Int) == 0) = true := by rw [hl1]; rfl
    have E0 := Lib.hid hl1
    clear hl1
    go_wp2_with fail
    (with_reducible refine (known_any _).mono ?_)
    rintro e w2 ⟨rfl, hb2⟩
    have HW2 := Lib.hid (HW.out.keep hb2)
    clear hb2 HW
    go_wp2_with fail
    (with_reducible refine (known_any _).mono ?_)
    rintro e w3 ⟨rfl, hb3⟩
    have HB := Lib.hid (HW2.out.keep hb3).below
    clear hb3 HW2
    go_wp2
    go_ret
    exact ⟨rfl, HB.out⟩
  · have g0 : ((l.length : Int) == 0) = false := by rw [beq_eq_false_iff_ne]; omega
    go_wp2_with fail
    (with_reducible refine (known_any _).mono ?_)
    rintro e w2 ⟨rfl, hb2⟩
    have HW2 := Lib.hid (HW.out.keep hb2)
    have f0 := HW2.out.c0
    clear hb2 HW
    have hlp : 1 ≤ l.length := by omega
    go_upto_region 5 with fail
    obtain ⟨k, hk⟩ : ∃ k : Nat, k = x % l.length := ⟨_, rfl⟩
    have hkl : k < l.length := by rw [hk]; exact Nat.mod_lt _ (by omega)
    rw [show ((x : Int) % (l.length : Int)) = (k : Int) from by rw [hk]; exact (Int.natCast_emod x l.length).symm]
    clear hk f0
    obtain ⟨ad, rfl, hcell⟩ := HW2.out.rs k hkl
    have hZk := HZ.out k hkl
    by_cases hs0 : (gs l k).size = 0
    · have g1 : (((gs l k).size : Int) == 0) = true := by rw [hs0]; rfl
      have E1 := Lib.hid hs0
      have HB := Lib.hid HW2.out.below
      clear hs0 HW2
      go_wp2
      go_ret
      exact ⟨rfl, HB.out⟩
    · have g1 : (((gs l k).size : Int) == 0) = false := by rw [beq_eq_false_iff_ne]; omega
      by_cases hz0 : z = 0
      · have g2 : ((z.toNat : Int) == 0) = true := by rw [hz0]; rfl
        have E1 := Lib.hid hz0
        have HB := Lib.hid HW2.out.below
        clear hz0 HW2
        go_wp2
        go_ret
        exact ⟨rfl, HB.out⟩
      · have g2 : ((z.toNat : Int) == 0) = false := by
          rw [beq_eq_false_iff_ne]
          intro h
          exact hz0 (UInt8.toNat_inj.1 (by simpa using h))
        have E2 := Lib.hid hz0
        clear hz0
        have HO : Hid ((w2.alloc (.cells #[] 9)).ownsRow w2.heap.size 9 1 (.slice (some ⟨w2.heap.size, 0, none⟩) 0 0) ([] : List ByteArray).length (encs Value.string ([] : List ByteArray))) := Lib.hid (World.ownsRow_made w2 #[] 0 (Nat.le_refl _) (by simp) rfl)
        have HBx : Hid (Below w2.heap.size w2 (w2.alloc (.cells #[] 9))) := Lib.hid ((Below.refl _ _).alloc (Nat.le_refl _) _)
        have HRx : Hid (ReadsOf Value.string ByteArray.empty (w2.alloc (.cells #[] 9)) (some ad) l.length l) := Lib.hid (reads_of_rds (HW2.out.rs.below HBx.out) (by omega))
        go_upto_region 8 with (at_builtin; refine print_append_row_of (w0 := w2) Value.string ByteArray.empty w2.heap.size rfl (.tmp 41) (.tmp 42) 52 9 (.string ByteArray.empty) 16 rfl Try.underlying52 (by kernel_rfl) rfl (by decide) (fun _ => rfl) _ [] l (some ad) l.length c' rfl rfl HO.out HRx.out HBx.out HBx.out.size (by simp; omega) ?_; intro v1 w3 hown hB hz1 hz2; clear hz1 hz2)
        rw [List.nil_append] at hown
        have HW3 := Lib.hid (HW2.out.keep hB)
        have hown' := hown
        obtain ⟨g, cap, rfl, hgb, hgl⟩ := own_some hown hlp
        have HO3 := Lib.hid hown'
        have HGB := Lib.hid hgb
        have HGL := Lib.hid hgl
        have hcell3 := (hB.cell (World.block_lt_of_cell? w2 _ hcell)).trans hcell
        have HB23 := Lib.hid hB
        clear hown hown' hB hgb hgl hcell HO HBx HRx
        have kb := fun W => Lib.run_convert_string_bytes (P := Try.prog) W 9 43 5 (gs l k) Try.underlying9 Try.underlying43 Try.underlying5
        have HBy := Lib.hid (bytes_below w3 (gs l k))
        have HRow := Lib.hid (Row8.made w3 (gs l k))
        have HSz := Lib.hid (Lib.bytesWorld_size w3 5 (gs l k))
        go_upto_region 9 with fail
        clear kb
        generalize grownCap _ _ _ _ = cap9
        generalize Lib.bytesWorld _ _ _ = w4 at *
        have HW4 := Lib.hid (HW3.out.keep HBy.out)
        clear HW3 hcell3
        have hyl : y % (gs l k).size < (gs l k).size := Nat.mod_lt _ (by omega)
        have f1 := HW4.out.c1
        have r1 := HRow.out.cell (y % (gs l k).size) (by rw [Array.length_toList]; exact hyl)
        have r2 := HRow.out.free (y % (gs l k).size) (by rw [Array.length_toList]; exact hyl)
        have hsp : 1 ≤ (gs l k).size := by omega
        go_region
        obtain ⟨b', hb'⟩ : ∃ b' : UInt8, b' = (gs l k).data[y % (gs l k).size]'hyl ^^^ z := ⟨_, rfl⟩
        have hv : Go.bits .xor .u8 (((gs l k).data[y % (gs l k).size]'hyl).toNat : Int) (z.toNat : Int) = (b'.toNat : Int) := by rw [hb', xor8]
        rw [hv]
        have HRow5 := Lib.hid (HRow.out.set (y % (gs l k).size) (by rw [Array.length_toList]; exact hyl) b' (.int .u8 b'.toNat) rfl).drew
        have HBut := Lib.hid (But.set w4 w3.heap.size (y % (gs l k).size) (.int .u8 b'.toNat))
        have HBb := Lib.hid hb'
        have HYL := Lib.hid hyl
        clear r1 r2 f1 HRow hv hb'
        generalize (w4.setCell _ _).drew = w5 at *
        have HB35 : Hid (Below w3.heap.size w3 w5) := Lib.hid (HBy.out.trans (HBut.out.below (Nat.le_refl _)))
        have HO5 : Hid (w5.ownsRow w2.heap.size 9 1 (.slice (some ⟨g, 0, none⟩) l.length cap) l.length (encs Value.string l)) := Lib.hid (pw_own_below HO3.out HB35.out)
        have kc := HRow5.out.conv (gs l k).size cap9 (by rw [List.length_set, Array.length_toList]; rfl)
        obtain ⟨o1, o2⟩ := own_at_of (d := ByteArray.empty) HO5.out (k : Int) (by omega) (by omega)
        rw [Int.toNat_natCast] at o1 o2
        have HS6 := Lib.hid (own_store_of HO5.out (k : Int) (str ((gs l k).data.toList.set (y % (gs l k).size) b'))).1
        go_upto_region 11 with fail
        obtain ⟨t, ht⟩ : ∃ t, t = str ((gs l k).data.toList.set (y % (gs l k).size) b') := ⟨_, rfl⟩
        have hne : ∀ q, lk q (gs l k) ≠ lk q t := fun q h => by
          have hd : t.data.toList = (gs l k).data.toList.set (y % (gs l k).size) b' := by rw [ht]; exact str_data _
          have e := lk_byte q (gs l k) t _ b' hd HYL.out h
          rw [List.getD_eq_getElem?_getD, List.getElem?_eq_getElem (by rw [Array.length_toList]; exact HYL.out)] at e
          have e2 := HBb.out
          rw [e] at e2
          exact E2.out (xor_fix e2)
        have hts : t.size ≤ 40 := by
          rw [ht]
          have : (str ((gs l k).data.toList.set (y % (gs l k).size) b')).size = (gs l k).size := by rw [str_size, List.length_set, Array.length_toList]; rfl
          omega
        rw [← ht] at HS6
        rw [← ht]
        have HW6 : Hid (AW w x y l (some ad) (w5.setCell ⟨g, k, none⟩ (.string t))) := Lib.hid (HW2.out.keep (((HB23.out.trans (HB35.out.mono HB23.out.size))).setCell HGB.out _))
        have HC6 : Hid (RdS (w5.setCell ⟨g, k, none⟩ (.string t)) (some ⟨g, 0, none⟩) (l.set k t)) := Lib.hid (fun i hi => by
          rw [List.length_set] at hi
          refine ⟨_, rfl, ?_⟩
          rw [add_plain]
          have h := HS6.out
          rw [Int.toNat_natCast] at h
          have := (own_at_of (d := ByteArray.empty) h (i : Int) (by omega) (by omega)).1
          rw [Int.toNat_natCast] at this
          rw [this]
          simp [rdOf, gs])
        have HZ6 : Hid (∀ i, i < (l.set k t).length → (gs (l.set k t) i).size ≤ 40) := Lib.hid (fun i hi => by
          rw [List.length_set] at hi
          rw [gs_set l k i t hkl]
          split
          · exact hts
          · exact HZ.out i hi)
        have HNE := Lib.hid hne
        have HKL := Lib.hid hkl
        have HL8 := Lib.hid hl
        have HLS : Hid (l.length = (l.set k t).length) := Lib.hid (by simp)
        clear ht hne hts HS6 HO5 HB35 kc o1 o2 HRow5 HBut HBb HYL HW2 HB23 HO3 HBy HSz E2
        generalize w5.setCell ⟨g, k, none⟩ (.string t) = w6 at *
        go_wp2_with fail
        (with_reducible refine (chain_n (some ad) c' _ l rfl HL8.out HZ.out _ HW6.out.rs).mono ?_)
        rintro e w7 ⟨A7, c7, rfl, hU7, hb7⟩
        have HW7 := Lib.hid (HW6.out.keep hb7)
        have HC7 := Lib.hid (HC6.out.below hb7)
        have HU7 := Lib.hid hU7
        clear hU7 hb7 HW6 HC6
        go_wp2_with fail
        (with_reducible refine (chain_n (some ⟨g, 0, none⟩) cap _ (l.set k t) HLS.out (by rw [← HLS.out]; exact HL8.out) HZ6.out _ HC7.out).mono ?_)
        rintro e w8 ⟨A8, c8, rfl, hU8, hb8⟩
        have HW8 := Lib.hid (HW7.out.keep hb8)
        have HC8 := Lib.hid (HC7.out.below hb8)
        have HU78 := Lib.hid (HU7.out.below hb8)
        have HU8 := Lib.hid hU8
        clear hU8 hb8 HW7 HC7 HU7
        go_wp2_with fail
        go_loopw [12] (fun i wr => ∃ m n : Nat, m ≤ l.length ∧ i = .int .i64 m ∧ wr = w8.drewN n) (fun i _ => l.length - (intOf i).toNat)
        case atStart => exact ⟨0, 0, by omega, rfl, rfl⟩
        case round =>
          obtain ⟨m, n, hm, rfl, rfl⟩ := hrel
          by_cases hlt : m < l.length
          · obtain ⟨ad7, rfl, hc7⟩ := HU78.out m (by rw [chainL_length]; exact hlt)
            obtain ⟨ad8, rfl, hc8⟩ := HU8.out m (by rw [chainL_length, ← HLS.out]; exact hlt)
            rw [chainL_get l m hlt] at hc7
            rw [chainL_get (l.set k t) m (by rw [← HLS.out]; exact hlt)] at hc8
            have hcs := chains_same l k t HKL.out HNE.out m hlt
            by_cases hmk : m < k
            · have g3 : (n32 (lnk l (m + 1)) == n32 (lnk (l.set k t) (m + 1))) = true := by rw [n32_beq, beq_iff_eq]; exact hcs.2 hmk
              clear hcs
              go_wp2_with fail
              go_quiet (fail)
              rw [World.drewN_drewN]
              go_wp2
              go_roundw
              case rel => exact ⟨m + 1, n + nq, by omega, by go_num, rfl⟩
              case measure => simp [intOf]; omega
            · have g3 : (n32 (lnk l (m + 1)) == n32 (lnk (l.set k t) (m + 1))) = false := by rw [n32_beq, beq_eq_false_iff_ne]; exact fun h => hmk (hcs.1 h)
              clear hcs
              go_wp2_with fail
              go_quiet (fail)
              rw [World.drewN_drewN]
              go_wp2
              go_roundw
              case rel => exact ⟨m + 1, n + nq, by omega, by go_num, rfl⟩
              case measure => simp [intOf]; omega
          · obtain rfl : m = l.length := by omega
            have HW9 := Lib.hid (HW8.out.keep (below_drewN w8 n))
            have HC9 := Lib.hid (HC8.out.below (below_drewN w8 n))
            have HU9 := Lib.hid (HU78.out.below (below_drewN w8 n))
            generalize w8.drewN n = w9 at *
            have HCL : Hid ((chainL l).length ≤ maxLen) := Lib.hid (by have := HL8.out; rw [chainL_length]; unfold maxLen; omega)
            have HVC := Lib.hid (verified_changed l k t HKL.out HNE.out)
            go_wp2_with fail
            (with_reducible refine (verify_n (some ⟨g, 0, none⟩) A7 cap c7 _ _ (l.set k t) (chainL l) HLS.out (chainL_length l).symm (by rw [← HLS.out]; exact HL8.out) HCL.out HZ6.out _ HC9.out HU9.out).mono ?_)
            rintro e w10 ⟨i10, ok10, rfl, hV, hb10⟩
            obtain ⟨rfl, rfl⟩ := hV.same HVC.out
            have HB := Lib.hid (HW9.out.keep hb10).below
            clear hV hb10 HW9
            go_wp2
            go_ret
            exact ⟨rfl, HB.out⟩

end Go.Proofs.Ytigilgkgkjkebaa
