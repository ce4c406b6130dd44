/- Contract: Verify. -/
import Derived.Test.YtigilgkgkjkebaaW10
import Derived.Deep.Quiet
namespace Go.Proofs.Ytigilgkgkjkebaa
open Go.RowKit Go.Proofs.YtigilgkgkjkebaaW.PrintWords
set_option linter.unusedVariables false
set_option linter.unusedSimpArgs false

/-- The link before link i in a list of links; 0 at the begin. -/
def pv (u : List (BitVec 32)) : Nat → BitVec 32
  | 0 => 0#32
  | i + 1 => gu u i
/-- Link i is there, and is the one that follows. -/
def Good (l : List ByteArray) (u : List (BitVec 32)) (i : Nat) : Prop := i < u.length ∧ gu u i = lk (pv u i) (gs l i)
/-- What Verify returns. -/
structure Verified (l : List ByteArray) (u : List (BitVec 32)) (i : Nat) (ok : Bool) : Prop where
  le : i ≤ l.length
  good : ∀ j, j < i → Good l u j
  bad : i < l.length → ¬ Good l u i ∧ ok = false
  all : i = l.length → ok = decide (u.length = l.length)

theorem link_lk (n : Int) (p : BitVec 32) (s : ByteArray) (hn : n = n32 p) (hs : s.size ≤ maxLen) (w : World) :
    Calls Try.prog 29 #[.int .u32 n, .string s] w fun e w' => e = .returned (.int .u32 (n32 (lk p s))) ∧ Below w.heap.size w w' := link_any n p s hn hs w
theorem reflink_lk (n : Int) (p : BitVec 32) (s : ByteArray) (hn : n = n32 p) (hs : s.size ≤ 1000) (w : World) :
    Calls Try.prog 30 #[.int .u32 n, .string s] w fun e w' => e = .returned (.int .u32 (n32 (lk p s))) ∧ Below w.heap.size w w' := reflink_any n p s hn hs w
theorem wp_region_class {P : Program} {C : World → Prop} {id : Nat} {Q : Exit → Act → World → Prop} {a : Act} {w : World} {l : List Oper} (hm : P.follows .mixedOrders = true) (hB : Region.lexB .any l.toArray = true) (hC : C (w.drewN 1))
    (h : wpQuiet P l.toArray C (fun a' => ∀ w', C w' → Q .normal a' w') l a) : (Code.region id l.toArray true).wp P Q a w :=
  wp_region_quiet (C := C) hm hB hC (by simpa using h)
/-- The worlds that stand behind w. -/
structure Beh (w W : World) : Prop where
  out : Below w.heap.size w W
theorem Beh.keep {w W W' : World} (h : Beh w W) (k : Below W.heap.size W W') : Beh w W' := ⟨h.out.trans (k.mono h.out.size)⟩

set_option maxRecDepth 100000 in
set_option maxHeartbeats 2000000 in
theorem verify_any (A B : Option Addr) (c d n : Nat) (l : List ByteArray) (u : List (BitVec 32)) (hn : n = u.length) (hl : l.length ≤ 8) (hu : u.length ≤ maxLen) (hz : ∀ i, i < l.length → (gs l i).size ≤ 40) (w : World) (hr : RdS w A l) (hq : RdU w B u) :
    Calls Try.prog 31 #[.slice A l.length c, .slice B n d] w fun e w' => ∃ (i : Nat) (ok : Bool), e = .returned (.tuple #[.int .i64 i, .bool ok]) ∧ Verified l u i ok ∧ Below w.heap.size w w' := by
  subst hn
  have HR := Lib.hid hr
  have HQ := Lib.hid hq
  have HZ := Lib.hid hz
  unfold maxLen at hu
  clear hr hz hq
  go_enter Try.func31, Try.ntmps31
  go_wp2
  go_loopw [6, 11] (fun p i wr => ∃ k : Nat, k ≤ l.length ∧ i = .int .i64 k ∧ p = .int .u32 (n32 (pv u k)) ∧ (∀ j, j < k → Good l u j) ∧ Below w.heap.size w wr) (fun _ i _ => l.length - (intOf i).toNat)
  case atStart => exact ⟨0, by omega, rfl, rfl, fun j hj => by omega, Below.refl _ _⟩
  case round =>
    obtain ⟨k, hk, rfl, rfl, hG, hB⟩ := hrel
    have HG := Lib.hid hG
    clear hG
    by_cases hlt : k < l.length
    · obtain ⟨ad, rfl, hcell⟩ := (HR.out.below hB) k hlt
      have hsz := Lib.hid (HZ.out k hlt)
      have HB := Lib.hid hB
      have hsz2 : Hid ((gs l k).size ≤ maxLen) := Lib.hid (by have := HZ.out k hlt; unfold maxLen; omega)
      by_cases hm : k < u.length
      · obtain ⟨bd, rfl, hcell2⟩ := (HQ.out.below hB) k hm
        have hm0 : decide (u.length ≤ k) = false := decide_eq_false (by omega)
        have HC : Hid (Beh wr (wr.drewN 1)) := Lib.hid ⟨⟨rfl, rfl, rfl, Nat.le_refl _, fun _ _ => rfl⟩⟩
        have hcl := fun (W' : World) (h : Beh wr W') => (h.out.cell (World.block_lt_of_cell? wr _ hcell2)).trans hcell2
        clear hB
        go_wp2_with fail
        refine wp_region_class (C := Beh wr) (by kernel_rfl) (by kernel_rfl) HC.out ?_
        by_cases hg : gu u k = lk (pv u k) (gs l k)
        · have hne : (n32 (gu u k) != n32 (lk (pv u k) (gs l k))) = false := by rw [hg]; simp
          have HG2 : Hid (∀ j, j < k + 1 → Good l u j) := Lib.hid (fun j hj => by
            by_cases e : j = k
            · subst e; exact ⟨hm, hg⟩
            · exact HG.out j (by omega))
          clear hg
          iterate 14
            refine wpQuiet_step (fun K hK => ?_)
            go_simp
            first
              | (refine hK _ ?_; clear hK K)
              | (refine ⟨_, fun _ _ => rfl, hK _ ?_⟩; clear hK K)
              | (refine ⟨.int .u32 (n32 (gu u k)), fun W' hW' => (by simp [hcl W' hW', go_sem]), hK _ ?_⟩; clear hK K)
              | (refine ⟨_, fun W' hW' => (link_lk _ (pv u k) _ rfl hsz2.out W').mono (fun e w' h => ⟨h.1, hW'.keep h.2⟩), hK _ ?_⟩; clear hK K)
          refine wpQuiet_nil ?_
          intro W' hW'
          have HB2 := Lib.hid (HB.out.trans (hW'.out.mono HB.out.size))
          have hc2 := hcl W' hW'
          clear hW' hcl
          go_wp2
          go_roundw
          case rel => exact ⟨k + 1, by omega, by go_num, rfl, HG2.out, HB2.out⟩
          case measure => simp [intOf]; omega
        · have hne : (n32 (gu u k) != n32 (lk (pv u k) (gs l k))) = true := by rw [bne_iff_ne]; intro h; exact hg (n32_inj h)
          have HG2 : Hid (¬ Good l u k) := Lib.hid (fun h => hg h.2)
          clear hg
          iterate 14
            refine wpQuiet_step (fun K hK => ?_)
            go_simp
            first
              | (refine hK _ ?_; clear hK K)
              | (refine ⟨_, fun _ _ => rfl, hK _ ?_⟩; clear hK K)
              | (refine ⟨.int .u32 (n32 (gu u k)), fun W' hW' => (by simp [hcl W' hW', go_sem]), hK _ ?_⟩; clear hK K)
              | (refine ⟨_, fun W' hW' => (link_lk _ (pv u k) _ rfl hsz2.out W').mono (fun e w' h => ⟨h.1, hW'.keep h.2⟩), hK _ ?_⟩; clear hK K)
          refine wpQuiet_nil ?_
          intro W' hW'
          have HB2 := Lib.hid (HB.out.trans (hW'.out.mono HB.out.size))
          clear hW' hcl
          go_wp2
          go_ret2
          exact ⟨k, false, rfl, ⟨hk, HG.out, fun _ => ⟨HG2.out, rfl⟩, fun e => by omega⟩, HB2.out⟩
      · have hm0 : decide (u.length ≤ k) = true := decide_eq_true (by omega)
        have HB2 : Hid (∀ n, Below w.heap.size w (wr.drewN n)) := Lib.hid (fun n => hB.trans ⟨rfl, rfl, rfl, Nat.le_refl _, fun _ _ => rfl⟩)
        clear hB
        go_wp2_with fail
        go_quiet (fail)
        go_wp2
        go_ret2
        exact ⟨k, false, rfl, ⟨hk, HG.out, fun _ => ⟨fun h => hm h.1, rfl⟩, fun e => by omega⟩, HB2.out nq⟩
    · obtain rfl : k = l.length := by omega
      have HB := Lib.hid hB
      clear hB
      by_cases he : u.length = l.length
      · have g1 : ((u.length : Int) == (l.length : Int)) = true := by rw [beq_iff_eq]; omega
        have E1 := Lib.hid he
        clear he
        go_wp2
        go_ret2
        exact ⟨l.length, true, rfl, ⟨Nat.le_refl _, HG.out, fun h => absurd h (Nat.lt_irrefl _), fun _ => (decide_eq_true E1.out).symm⟩, HB.out⟩
      · have g1 : ((u.length : Int) == (l.length : Int)) = false := by rw [beq_eq_false_iff_ne]; omega
        have E1 := Lib.hid he
        clear he
        go_wp2
        go_ret2
        exact ⟨l.length, false, rfl, ⟨Nat.le_refl _, HG.out, fun h => absurd h (Nat.lt_irrefl _), fun _ => (decide_eq_false E1.out).symm⟩, HB.out⟩

end Go.Proofs.Ytigilgkgkjkebaa
