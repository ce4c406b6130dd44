/- Walk of the law ChecksumChains. -/
import Derived.Test.YtigilgkgkjkebaaW11
import Derived.Deep.DeepCutAuto
import Derived.Deep.CutBlock
namespace Go.Proofs.Ytigilgkgkjkebaa
open Go.RowKit Go.Proofs.YtigilgkgkjkebaaW.PrintWords
set_option linter.unusedVariables false
set_option linter.unusedSimpArgs false

theorem few_len (l : List ByteArray) : (fewL l).length ≤ 8 := by simp [fewL]; omega
theorem few_size (l : List ByteArray) (i : Nat) (h : i < (fewL l).length) : (gs (fewL l) i).size ≤ 40 := by
  have hl : i < (l.take 8).length := by simpa [fewL] using h
  have e : gs (fewL l) i = cut (l.take 8)[i] := by
    unfold gs fewL
    rw [List.getD_eq_getElem?_getD, List.getElem?_map, List.getElem?_eq_getElem hl]
    rfl
  rw [e]
  simp [cut]
  omega
theorem pv_chain (l : List ByteArray) (i : Nat) (h : i < l.length) : pv (chainL l) i = lnk l i := by
  cases i with
  | zero => rfl
  | succ i => exact chainL_get l i (by omega)
theorem chain_good (l : List ByteArray) (i : Nat) (h : i < l.length) : Good l (chainL l) i :=
  ⟨by rw [chainL_length]; exact h, by rw [chainL_get l i h, pv_chain l i h, lnk_succ l i h]⟩
theorem Verified.chain {l : List ByteArray} {i : Nat} {ok : Bool} (h : Verified l (chainL l) i ok) : i = l.length ∧ ok = true := by
  have e : i = l.length := by
    have := h.le
    apply Nat.le_antisymm this
    apply Nat.le_of_not_lt
    intro hlt
    exact (h.bad hlt).1 (chain_good l i hlt)
  exact ⟨e, by rw [h.all e, chainL_length]; simp⟩
theorem Verified.same {l : List ByteArray} {u : List (BitVec 32)} {i j : Nat} {a b : Bool} (h : Verified l u i a) (k : Verified l u j b) : i = j ∧ a = b := by
  have e : i = j := by
    rcases Nat.lt_trichotomy i j with e | e | e
    · exact absurd (k.good i e) (h.bad (by have := k.le; omega)).1
    · exact e
    · exact absurd (h.good j e) (k.bad (by have := h.le; omega)).1
  subst e
  refine ⟨rfl, ?_⟩
  by_cases hi : i < l.length
  · rw [(h.bad hi).2, (k.bad hi).2]
  · have := h.le
    rw [h.all (by omega), k.all (by omega)]

/-- What holds of the law's world: the records, the links that came, the chain. -/
structure ChW (w : World) (l : List ByteArray) (u : List (BitVec 32)) (A B C : Option Addr) (W : World) : Prop where
  below : Below w.heap.size w W
  rs : RdS W A l
  ru : RdU W B u
  rc : RdU W C (chainL l)
theorem ChW.keep {w W W' : World} {l : List ByteArray} {u : List (BitVec 32)} {A B C : Option Addr} (h : ChW w l u A B C W) (k : Below W.heap.size W W') : ChW w l u A B C W' :=
  ⟨h.below.trans (k.mono h.below.size), h.rs.below k, h.ru.below k, h.rc.below k⟩
theorem below_drewN (w : World) (n : Nat) : Below w.heap.size w (w.drewN n) := ⟨rfl, rfl, rfl, Nat.le_refl _, fun _ _ => rfl⟩

/-- What the law wants of Verify, behind k rounds. -/
def Want (l : List ByteArray) (u : List (BitVec 32)) (k : Nat) (x : Int) : Prop :=
  (x = -1 ∧ ∀ j, j < k → Good l u j) ∨ (∃ m : Nat, x = m ∧ m < l.length ∧ m < u.length ∧ (∀ j, j < m → Good l u j) ∧ ¬ Good l u m)
theorem Want.done {l : List ByteArray} {u : List (BitVec 32)} {k : Nat} {x : Int} (h : Want l u k x) (hk : k ≤ l.length) (hk2 : k ≤ u.length) (hgo : ¬ (k < l.length ∧ k < u.length ∧ x < 0)) : Want l u (min l.length u.length) x := by
  rcases h with ⟨rfl, hg⟩ | h
  · refine .inl ⟨rfl, fun j hj => hg j ?_⟩
    omega
  · exact .inr h

set_option maxRecDepth 100000 in
set_option maxHeartbeats 4000000 in
theorem chains_walk (A B : Option Addr) (c d : Nat) (l0 : List ByteArray) (u : List (BitVec 32)) (p : BitVec 32) (hl0 : l0.length ≤ maxLen) (hu : u.length ≤ maxLen) (w : World) (hr : Kd.C Kd.string w A l0.length l0) (hc : l0.length ≤ c) (hq : RdU w B u) :
    Calls Try.prog 11 #[.slice A l0.length c, .slice B u.length d, .int .u32 (n32 p)] w fun e w' => e = .returned (.bool true) ∧ Below w.heap.size w w' := by
  have HR := Lib.hid hr
  have HQ := Lib.hid hq
  have HL0 : Hid (l0.length ≤ 9223372036854775807) := Lib.hid (by unfold maxLen at hl0; omega)
  have HU := Lib.hid hu
  have HC := Lib.hid hc
  unfold maxLen at hu
  clear hr hq hc hl0
  go_enter Try.func11, Try.ntmps11
  go_wp2_with fail
  (with_reducible refine (few_any A c l0 HL0.out _ HR.out HC.out).mono ?_)
  rintro e w1 ⟨A', c', rfl, hr1, hb1⟩
  have hl := few_len l0
  have HZ := Lib.hid (few_size l0)
  have HQ1 := Lib.hid (HQ.out.below hb1)
  have HB1 := Lib.hid hb1
  have HR1 := Lib.hid hr1
  clear HQ HR HL0 HC hr1 hb1
  generalize fewL l0 = l at *
  go_wp2_with fail
  (with_reducible refine (chain_any A' c' l hl HZ.out _ HR1.out).mono ?_)
  rintro e w2 ⟨A2, c2, rfl, hc2, hb2⟩
  have HQ2 := Lib.hid (HQ1.out.below hb2)
  have HR2 := Lib.hid (HR1.out.below hb2)
  have HB2 := Lib.hid (HB1.out.trans (hb2.mono HB1.out.size))
  have HC2 := Lib.hid hc2
  clear HQ1 HR1 HB1 hc2 hb2
  go_wp2_with fail
  (with_reducible refine (known_any _).mono ?_)
  rintro e w3 ⟨rfl, hb3⟩
  have HQ3 := Lib.hid (HQ2.out.below hb3)
  have HR3 := Lib.hid (HR2.out.below hb3)
  have HC3 := Lib.hid (HC2.out.below hb3)
  have HB3 := Lib.hid (HB2.out.trans (hb3.mono HB2.out.size))
  clear HQ2 HR2 HC2 HB2 hb3
  go_wp2_with fail
  have HW : Hid (ChW w l u A' B A2 w3) := Lib.hid ⟨HB3.out, HR3.out, HQ3.out, HC3.out⟩
  clear HQ3 HR3 HC3 HB3
  go_loopw [8, 10] (fun q i wr => ∃ k : Nat, k ≤ l.length ∧ i = .int .i64 k ∧ q = .int .u32 (n32 (lnk l k)) ∧ ChW w l u A' B A2 wr) (fun _ i _ => l.length - (intOf i).toNat)
  case atStart => exact ⟨0, by omega, rfl, rfl, HW.out⟩
  case round =>
    clear HW
    obtain ⟨k, hk, rfl, rfl, hW⟩ := hrel
    by_cases hlt : k < l.length
    · obtain ⟨ad, rfl, hcell⟩ := hW.rs k hlt
      have hsz2 : Hid ((gs l k).size ≤ maxLen) := Lib.hid (by have := HZ.out k hlt; unfold maxLen; omega)
      have hsz3 : Hid ((gs l k).size ≤ 1000) := Lib.hid (by have := HZ.out k hlt; omega)
      have HWd := Lib.hid (hW.keep (below_drewN wr 1))
      have hcl := fun (W' : World) (h : ChW w l u (some ad) B A2 W') => (show W'.cell? (ad.add k) = some (.string (gs l k)) by
        obtain ⟨ad', e, h'⟩ := h.rs k hlt
        cases e
        exact h')
      have HL1 := Lib.hid (lnk_succ l k hlt)
      clear hW
      go_wp2_with fail
      refine wp_region_class (C := ChW w l u (some ad) B A2) (by kernel_rfl) (by kernel_rfl) HWd.out ?_
      iterate 13
        refine wpQuiet_step (fun K hK => ?_)
        go_simp
        first
          | (refine hK _ ?_; clear hK K)
          | (refine ⟨_, fun _ _ => rfl, hK _ ?_⟩; clear hK K)
          | (refine ⟨.string (gs l k), fun W' hW' => (by simp [hcl W' hW', go_sem]), hK _ ?_⟩; clear hK K)
          | (refine ⟨_, fun W' hW' => (link_lk _ p _ rfl hsz2.out W').mono (fun e w' h => ⟨h.1, hW'.keep h.2⟩), hK _ ?_⟩; clear hK K)
          | (refine ⟨_, fun W' hW' => (reflink_lk _ p _ rfl hsz3.out W').mono (fun e w' h => ⟨h.1, hW'.keep h.2⟩), hK _ ?_⟩; clear hK K)
      refine wpQuiet_nil ?_
      intro W' hW'
      have hc2 := hcl W' hW'
      have HW1 := Lib.hid hW'
      clear hW' hcell
      go_wp2_with fail
      (with_reducible refine (reflink_lk _ (lnk l k) _ rfl hsz3.out _).mono ?_)
      rintro e W2 ⟨rfl, hb2⟩
      rw [← HL1.out]
      have hW2 := HW1.out.keep hb2
      obtain ⟨cd, rfl, hcc⟩ := hW2.rc k (by rw [chainL_length]; exact hlt)
      rw [chainL_get l k hlt] at hcc
      have HW2 := Lib.hid hW2
      clear hW2 hb2 HW1 hc2 hcl
      go_wp2
      go_roundw
      case rel => exact ⟨k + 1, by omega, by go_num, rfl, HW2.out⟩
      case measure => simp [intOf]; omega
    · obtain rfl : k = l.length := by omega
      have HW1 := Lib.hid hW
      clear hW
      go_upto_block 2 with fail
      go_cut [9] (fun wv wx => ∃ x : Int, wv = .int .i64 x ∧ Want l u (min l.length u.length) x ∧ ChW w l u A' B A2 wx)
      case first =>
        go_wp2_with fail
        go_loopw [8, 9, 11] (fun q wv i wr => ∃ (k : Nat) (x : Int), k ≤ l.length ∧ k ≤ u.length ∧ i = .int .i64 k ∧ q = .int .u32 (n32 (pv u k)) ∧ wv = .int .i64 x ∧ Want l u k x ∧ ChW w l u A' B A2 wr) (fun _ _ i _ => l.length - (intOf i).toNat)
        case atStart => exact ⟨0, -1, by omega, by omega, rfl, rfl, rfl, .inl ⟨rfl, fun j hj => by omega⟩, HW1.out⟩
        case round =>
          clear HW1
          obtain ⟨k, x, hk, hk2, rfl, rfl, rfl, hWt, hW⟩ := hrel
          by_cases hgo : k < l.length ∧ k < u.length ∧ x < 0
          · obtain ⟨hlt, hltu, hx⟩ := hgo
            have hx1 : x = -1 := by
              rcases hWt with ⟨h, _⟩ | ⟨m, h, _⟩ <;> omega
            subst hx1
            have hgd : Hid (∀ j, j < k → Good l u j) := Lib.hid (by
              rcases hWt with ⟨_, h⟩ | ⟨m, h, _⟩
              · exact h
              · omega)
            obtain ⟨ad, rfl, hcell⟩ := hW.rs k hlt
            obtain ⟨bd, rfl, hcell2⟩ := hW.ru k hltu
            have hsz3 : Hid ((gs l k).size ≤ 1000) := Lib.hid (by have := HZ.out k hlt; omega)
            have HWd := Lib.hid (hW.keep (below_drewN wr 1))
            have hcl := fun (W' : World) (h : ChW w l u (some ad) (some bd) A2 W') => (show W'.cell? (ad.add k) = some (.string (gs l k)) by
              obtain ⟨ad', e, h'⟩ := h.rs k hlt
              cases e
              exact h')
            have hcl2 := fun (W' : World) (h : ChW w l u (some ad) (some bd) A2 W') => (show W'.cell? (bd.add k) = some (.int .u32 (n32 (gu u k))) by
              obtain ⟨ad', e, h'⟩ := h.ru k hltu
              cases e
              exact h')
            clear hW hcell hcell2 hWt hx
            by_cases hg : gu u k = lk (pv u k) (gs l k)
            · have hne : (n32 (gu u k) != n32 (lk (pv u k) (gs l k))) = false := by rw [hg]; simp
              have HW2 : Hid (Want l u (k + 1) (-1)) := Lib.hid (.inl ⟨rfl, fun j hj => by
                by_cases e : j = k
                · subst e; exact ⟨hltu, hg⟩
                · exact hgd.out j (by omega)⟩)
              clear hg
              go_wp2_with fail
              refine wp_region_class (C := ChW w l u (some ad) (some bd) A2) (by kernel_rfl) (by kernel_rfl) HWd.out ?_
              iterate 11
                refine wpQuiet_step (fun K hK => ?_)
                go_simp
                first
                  | (refine hK _ ?_; clear hK K)
                  | (refine ⟨_, fun _ _ => rfl, hK _ ?_⟩; clear hK K)
                  | (refine ⟨.string (gs l k), fun W' hW' => (by simp [hcl W' hW', go_sem]), hK _ ?_⟩; clear hK K)
                  | (refine ⟨.int .u32 (n32 (gu u k)), fun W' hW' => (by simp [hcl2 W' hW', go_sem]), hK _ ?_⟩; clear hK K)
                  | (refine ⟨_, fun W' hW' => (reflink_lk _ (pv u k) _ rfl hsz3.out W').mono (fun e w' h => ⟨h.1, hW'.keep h.2⟩), hK _ ?_⟩; clear hK K)
              refine wpQuiet_nil ?_
              intro W' hW'
              have hc2 := hcl2 W' hW'
              have HW1 := Lib.hid hW'
              clear hW' hcl hcl2 HWd
              go_wp2
              go_roundw
              case rel => exact ⟨k + 1, -1, by omega, by omega, by go_num, rfl, rfl, HW2.out, HW1.out⟩
              case measure => simp [intOf]; omega
            · have hne : (n32 (gu u k) != n32 (lk (pv u k) (gs l k))) = true := by rw [bne_iff_ne]; intro h; exact hg (n32_inj h)
              have HW2 : Hid (Want l u (k + 1) (k : Int)) := Lib.hid (.inr ⟨k, rfl, hlt, hltu, hgd.out, fun h => hg h.2⟩)
              clear hg
              go_wp2_with fail
              refine wp_region_class (C := ChW w l u (some ad) (some bd) A2) (by kernel_rfl) (by kernel_rfl) HWd.out ?_
              iterate 11
                refine wpQuiet_step (fun K hK => ?_)
                go_simp
                first
                  | (refine hK _ ?_; clear hK K)
                  | (refine ⟨_, fun _ _ => rfl, hK _ ?_⟩; clear hK K)
                  | (refine ⟨.string (gs l k), fun W' hW' => (by simp [hcl W' hW', go_sem]), hK _ ?_⟩; clear hK K)
                  | (refine ⟨.int .u32 (n32 (gu u k)), fun W' hW' => (by simp [hcl2 W' hW', go_sem]), hK _ ?_⟩; clear hK K)
                  | (refine ⟨_, fun W' hW' => (reflink_lk _ (pv u k) _ rfl hsz3.out W').mono (fun e w' h => ⟨h.1, hW'.keep h.2⟩), hK _ ?_⟩; clear hK K)
              refine wpQuiet_nil ?_
              intro W' hW'
              have hc2 := hcl2 W' hW'
              have HW1 := Lib.hid hW'
              clear hW' hcl hcl2 HWd
              go_wp2
              go_roundw
              case rel => exact ⟨k + 1, k, by omega, by omega, by go_num, rfl, rfl, HW2.out, HW1.out⟩
              case measure => simp [intOf]; omega
          · have HWt : Hid (Want l u (min l.length u.length) x) := Lib.hid (hWt.done hk hk2 hgo)
            have HW1 := Lib.hid hW
            clear hWt hW
            by_cases h1 : k < l.length
            · by_cases h2 : k < u.length
              · have h3 : ¬ x < 0 := fun h => hgo ⟨h1, h2, h⟩
                clear hgo
                go_wp2
                go_meet
                exact ⟨x, rfl, HWt.out, HW1.out⟩
              · clear hgo
                go_wp2
                go_meet
                exact ⟨x, rfl, HWt.out, HW1.out⟩
            · clear hgo
              go_wp2
              go_meet
              exact ⟨x, rfl, HWt.out, HW1.out⟩
      case rest =>
        obtain ⟨x, rfl, hWt, hW⟩ := hcut
        have HWt := Lib.hid hWt
        have HW2 := Lib.hid hW
        have hlm : Hid (l.length ≤ 8) := Lib.hid hl
        have HCL : Hid ((chainL l).length ≤ maxLen) := Lib.hid (by rw [chainL_length]; unfold maxLen; omega)
        have HCE : Hid ((chainL l).length = l.length) := Lib.hid (chainL_length l)
        clear hWt hW
        rcases HWt.out with ⟨rfl, hgood⟩ | ⟨m, rfl, hm1, hm2, hgd, hbad⟩
        · by_cases he : l.length = u.length
          · have HV : Hid (Verified l u l.length true) := Lib.hid ⟨Nat.le_refl _, fun j hj => hgood j (by omega), fun h => absurd h (Nat.lt_irrefl _), fun _ => (decide_eq_true he.symm).symm⟩
            have g1 : ((l.length : Int) != (u.length : Int)) = false := by rw [he]; simp
            clear hgood HWt he
            go_wp2_with fail
            (with_reducible refine (verify_any A' A2 c' c2 _ l (chainL l) HCE.out.symm hlm.out HCL.out HZ.out _ HW2.out.rs HW2.out.rc).mono ?_)
            rintro e W3 ⟨i3, ok3, rfl, hV3, hb3⟩
            obtain ⟨rfl, rfl⟩ := hV3.chain
            have HW3 := Lib.hid (HW2.out.keep hb3)
            clear hV3 hb3 HW2
            go_wp2_with fail
            (with_reducible refine (verify_any A' B c' d _ l u rfl hlm.out HU.out HZ.out _ HW3.out.rs HW3.out.ru).mono ?_)
            rintro e W4 ⟨i4, ok4, rfl, hV4, hb4⟩
            obtain ⟨rfl, rfl⟩ := hV4.same HV.out
            have HB := Lib.hid (HW3.out.keep hb4).below
            clear hV4 hb4 HW3
            go_wp2
            go_ret
            exact ⟨rfl, HB.out⟩
          · have HV : Hid (Verified l u (min l.length u.length) false) := Lib.hid ⟨by omega, hgood, fun h => ⟨fun hg => by have := hg.1; omega, rfl⟩, fun e => by rw [decide_eq_false (by omega)]⟩
            have g1 : ((l.length : Int) != (u.length : Int)) = true := by rw [bne_iff_ne]; omega
            clear hgood HWt
            rcases Nat.lt_or_gt_of_ne he with hlt | hlt
            · have HV2 : Hid (Verified l u l.length false) := Lib.hid (by have h := HV.out; rwa [Nat.min_eq_left (by omega)] at h)
              clear HV he
              have HV := HV2
              clear HV2
              go_wp2_with fail
              (with_reducible refine (verify_any A' A2 c' c2 _ l (chainL l) HCE.out.symm hlm.out HCL.out HZ.out _ HW2.out.rs HW2.out.rc).mono ?_)
              rintro e W3 ⟨i3, ok3, rfl, hV3, hb3⟩
              obtain ⟨rfl, rfl⟩ := hV3.chain
              have HW3 := Lib.hid (HW2.out.keep hb3)
              clear hV3 hb3 HW2
              go_wp2_with fail
              (with_reducible refine (verify_any A' B c' d _ l u rfl hlm.out HU.out HZ.out _ HW3.out.rs HW3.out.ru).mono ?_)
              rintro e W4 ⟨i4, ok4, rfl, hV4, hb4⟩
              obtain ⟨rfl, rfl⟩ := hV4.same HV.out
              have HB := Lib.hid (HW3.out.keep hb4).below
              clear hV4 hb4 HW3
              go_wp2
              go_ret
              exact ⟨rfl, HB.out⟩
            · have HV2 : Hid (Verified l u u.length false) := Lib.hid (by have h := HV.out; rwa [Nat.min_eq_right (by omega)] at h)
              clear HV he
              have HV := HV2
              clear HV2
              go_wp2_with fail
              (with_reducible refine (verify_any A' A2 c' c2 _ l (chainL l) HCE.out.symm hlm.out HCL.out HZ.out _ HW2.out.rs HW2.out.rc).mono ?_)
              rintro e W3 ⟨i3, ok3, rfl, hV3, hb3⟩
              obtain ⟨rfl, rfl⟩ := hV3.chain
              have HW3 := Lib.hid (HW2.out.keep hb3)
              clear hV3 hb3 HW2
              go_wp2_with fail
              (with_reducible refine (verify_any A' B c' d _ l u rfl hlm.out HU.out HZ.out _ HW3.out.rs HW3.out.ru).mono ?_)
              rintro e W4 ⟨i4, ok4, rfl, hV4, hb4⟩
              obtain ⟨rfl, rfl⟩ := hV4.same HV.out
              have HB := Lib.hid (HW3.out.keep hb4).below
              clear hV4 hb4 HW3
              go_wp2
              go_ret
              exact ⟨rfl, HB.out⟩
        · have HV : Hid (Verified l u m false) := Lib.hid ⟨by omega, hgd, fun _ => ⟨hbad, rfl⟩, fun e => by omega⟩
          clear hgd hbad HWt
          go_wp2_with fail
          (with_reducible refine (verify_any A' A2 c' c2 _ l (chainL l) HCE.out.symm hlm.out HCL.out HZ.out _ HW2.out.rs HW2.out.rc).mono ?_)
          rintro e W3 ⟨i3, ok3, rfl, hV3, hb3⟩
          obtain ⟨rfl, rfl⟩ := hV3.chain
          have HW3 := Lib.hid (HW2.out.keep hb3)
          clear hV3 hb3 HW2
          go_wp2_with fail
          (with_reducible refine (verify_any A' B c' d _ l u rfl hlm.out HU.out HZ.out _ HW3.out.rs HW3.out.ru).mono ?_)
          rintro e W4 ⟨i4, ok4, rfl, hV4, hb4⟩
          obtain ⟨rfl, rfl⟩ := hV4.same HV.out
          have HB := Lib.hid (HW3.out.keep hb4).below
          clear hV4 hb4 HW3
          go_wp2
          go_ret
          exact ⟨rfl, HB.out⟩

end Go.Proofs.Ytigilgkgkjkebaa
