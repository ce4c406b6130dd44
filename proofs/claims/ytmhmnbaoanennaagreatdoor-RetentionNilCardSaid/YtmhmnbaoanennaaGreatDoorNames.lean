/- Contracts: names and values. -/
import Derived.Test.YtmhmnbaoanennaaGreatDoorTiers
namespace Go.Proofs.YtmhmnbaoanennaaGreatDoor
open Go Go.Ev Go.Proofs Go.RowKit
set_option linter.unusedVariables false
set_option linter.unusedSimpArgs false

/-- Byte number k. -/
def bt (s : ByteArray) (k : Nat) : Int := if h : k < s.size then (s[k].toNat : Int) else 0
theorem bt_eq {s : ByteArray} {k : Nat} (h : k < s.size) : bt s k = (s[k].toNat : Int) := by unfold bt; rw [dif_pos h]
/-- Are all bytes within bounds? -/
def withinB (s : ByteArray) (lo hi : Int) : Bool := (List.range s.size).all fun k => decide (lo ≤ bt s k ∧ bt s k ≤ hi)
theorem withinB_true {s : ByteArray} {lo hi : Int} (h : ∀ j, j < s.size → lo ≤ bt s j ∧ bt s j ≤ hi) : withinB s lo hi = true := by
  unfold withinB
  rw [List.all_eq_true]
  intro k hk
  simpa using h k (List.mem_range.1 hk)
theorem withinB_false {s : ByteArray} {lo hi : Int} {k : Nat} (hk : k < s.size) (h : ¬ (lo ≤ bt s k ∧ bt s k ≤ hi)) : withinB s lo hi = false := by
  unfold withinB
  rw [List.all_eq_false]
  exact ⟨k, List.mem_range.2 hk, by simpa using h⟩

theorem within_any (s : ByteArray) (lo hi : Int) (hs : s.size ≤ 9223372036854775807) (w : World) :
    Calls Tryz.prog 139 #[.string s, .int .u8 lo, .int .u8 hi] w fun e w' => e = .returned (.bool (withinB s lo hi)) ∧ w' = w := by
  go_enter Tryz.func139, Tryz.ntmps139
  go_wp2
  go_loopw [7, 10] (fun t i wr => ∃ k : Nat, k ≤ s.size ∧ i = .int .i64 k ∧ (∀ j, j < k → lo ≤ bt s j ∧ bt s j ≤ hi) ∧ wr = w) (fun _ i _ => s.size - (intOf i).toNat)
  case atStart => exact ⟨0, by omega, rfl, fun j hj => by omega, rfl⟩
  case round =>
    obtain ⟨k, hk, rfl, hB, rfl⟩ := hrel
    have HB := Lib.hid hB
    clear hB
    by_cases hlt : k < s.size
    · have e := bt_eq hlt
      by_cases h1 : bt s k < lo
      · have hw := withinB_false (lo := lo) (hi := hi) hlt (by omega)
        rw [e] at h1
        have HW := Lib.hid hw
        clear hw e
        go_wp2
        go_ret
        exact ⟨by rw [HW.out]; rfl, rfl⟩
      · by_cases h2 : hi < bt s k
        · have hw := withinB_false (lo := lo) (hi := hi) hlt (by omega)
          rw [e] at h1 h2
          have HW := Lib.hid hw
          have h3 : lo ≤ (s[k].toNat : Int) := by omega
          clear hw e h1
          go_wp2
          go_ret
          exact ⟨by rw [HW.out]; rfl, rfl⟩
        · have HN : Hid (∀ j, j < k + 1 → lo ≤ bt s j ∧ bt s j ≤ hi) := Lib.hid (fun j hj => by
            by_cases hjk : j = k
            · subst hjk; omega
            · exact HB.out j (by omega))
          rw [e] at h1 h2
          have h3 : lo ≤ (s[k].toNat : Int) := by omega
          have h4 : (s[k].toNat : Int) ≤ hi := by omega
          clear e h1 h2
          go_wp2
          exact ⟨⟨k + 1, by omega, by go_num, HN.out, trivial⟩, by simp [intOf]; omega⟩
    · obtain rfl : k = s.size := by omega
      have hw := withinB_true HB.out
      have HW := Lib.hid hw
      clear hw
      go_wp2
      go_ret
      exact ⟨by rw [HW.out]; rfl, rfl⟩
/-- Does a node compare a field with a value? -/
def isT (op : Int) : Bool := op == 5 || op == 6 || op == 7
theorem isTest_any (op n i : Int) (f k t : ByteArray) (A : Option Addr) (l c : Nat) (w : World) :
    Calls Tryz.prog 144 #[.agg #[.int .i64 op, .string f, .string k, .int .i64 n, .string t, .int .i64 i, .slice A l c]] w fun e w' => e = .returned (.bool (isT op)) ∧ Below w.heap.size w w' := by
  go_enter Tryz.func144, Tryz.ntmps144
  go_wp2
  all_goals
    go_ret
    refine ⟨?_, below_alloc _ _⟩
    simp [isT, *]
/-- Is it a name? -/
def nameB (s : ByteArray) : Bool := !s.toList.isEmpty && (decide ((s.size : Int) ≤ 64) && withinB s 33 126)
theorem IsName_any (s : ByteArray) (hs : s.size ≤ 9223372036854775807) (w : World) :
    Calls Tryz.prog 95 #[.string s] w fun e w' => e = .returned (.bool (nameB s)) ∧ w' = w := by
  go_enter Tryz.func95, Tryz.ntmps95
  go_wp2_with (first
    | (go_at_call 139; (with_reducible refine (within_any s 33 126 hs _).mono ?_); rintro e w' ⟨rfl, rfl⟩))
  all_goals
    go_ret
    refine ⟨?_, rfl⟩
    simp [nameB, *]
    try (intros; omega)
/-- The error of a value. -/
def valC (n i : Int) (t : ByteArray) : Int :=
  if n = 1 then (if 4096 < (t.size : Int) then 5 else if withinB t 32 126 = true ∧ i = 0 then 0 else 3)
  else if n = 2 then (if 4096 < (t.size : Int) then 5 else if t.toList = [] ∧ -1099511627776 ≤ i ∧ i ≤ 1099511627776 then 0 else 3)
  else if n = 3 then (if 4096 < (t.size : Int) then 5 else if t.toList = [] ∧ (i = 0 ∨ i = 1) then 0 else 3)
  else 12
theorem CheckValue_any (n i : Int) (t : ByteArray) (hs : t.size ≤ 9223372036854775807) (w : World) :
    Calls Tryz.prog 140 #[.agg #[.int .i64 n, .string t, .int .i64 i]] w fun e w' => e = .returned (.int .i64 (valC n i t)) ∧ Below w.heap.size w w' := by
  go_enter Tryz.func140, Tryz.ntmps140
  go_wp2_with (first
    | (go_at_call 139; (with_reducible refine (within_any t 32 126 hs _).mono ?_); rintro e w' ⟨rfl, rfl⟩))
  all_goals
    go_ret
    refine ⟨?_, below_alloc _ _⟩
    have hleaf : True := trivial
    simp_all [valC]
    try omega
end Go.Proofs.YtmhmnbaoanennaaGreatDoor
