/- Contracts: the error of a predicate without arguments. -/
import Derived.Test.YtmhmnbaoanennaaGreatDoorNames
namespace Go.Proofs.YtmhmnbaoanennaaGreatDoor
open Go Go.Ev Go.Proofs Go.RowKit
set_option linter.unusedVariables false
set_option linter.unusedSimpArgs false

/-- A predicate's value. -/
def PredAt (w : World) (b : Nat) (op n i : Int) (f k t : ByteArray) (A : Option Addr) (l c : Nat) (W : World) : Prop :=
  W.cell? ⟨b, 0, none⟩ = some (.int .i64 op) ∧ W.cell? ⟨b, 1, none⟩ = some (.string f) ∧ W.cell? ⟨b, 2, none⟩ = some (.string k) ∧ W.cell? ⟨b, 3, none⟩ = some (.int .i64 n) ∧ W.cell? ⟨b, 4, none⟩ = some (.string t) ∧ W.cell? ⟨b, 5, none⟩ = some (.int .i64 i) ∧ W.cell? ⟨b, 6, none⟩ = some (.slice A l c) ∧ Below w.heap.size w W
theorem PredAt.keep {w W W' : World} {b : Nat} {op n i : Int} {f k t : ByteArray} {A : Option Addr} {l c : Nat} (h : PredAt w b op n i f k t A l c W) (hk : Below W.heap.size W W') : PredAt w b op n i f k t A l c W' := by
  obtain ⟨h0, h1, h2, h3, h4, h5, h6, hb⟩ := h
  have hlt := World.block_lt_of_cell? W _ h0
  exact ⟨(hk.cell hlt).trans h0, (hk.cell (p := ⟨b, 1, none⟩) hlt).trans h1, (hk.cell (p := ⟨b, 2, none⟩) hlt).trans h2, (hk.cell (p := ⟨b, 3, none⟩) hlt).trans h3, (hk.cell (p := ⟨b, 4, none⟩) hlt).trans h4, (hk.cell (p := ⟨b, 5, none⟩) hlt).trans h5, (hk.cell (p := ⟨b, 6, none⟩) hlt).trans h6, hb.trans (hk.mono hb.size)⟩
theorem PredAt.drew {w W : World} {b : Nat} {op n i : Int} {f k t : ByteArray} {A : Option Addr} {l c : Nat} (h : PredAt w b op n i f k t A l c W) : PredAt w b op n i f k t A l c W.drew :=
  h.keep ⟨rfl, rfl, rfl, Nat.le_refl _, fun _ _ => rfl⟩

/-- The error of a predicate without arguments. -/
def nodeC (op n i : Int) (f k t : ByteArray) : Int :=
  if op = 1 ∨ op = 2 ∨ op = 3 then 3
  else if op = 0 then (if f.toList = [] ∧ n = 0 ∧ t.toList = [] ∧ i = 0 ∧ k.toList = [] then 0 else 3)
  else if op = 4 then (if f.toList = [] ∧ n = 0 ∧ t.toList = [] ∧ i = 0 then (if nameB k = true then 0 else 11) else 3)
  else if op = 5 ∨ op = 6 ∨ op = 7 then
    (if nameB f = false ∨ (f.toList = [97, 116, 116, 114] ∧ nameB k = false) ∨ (f.toList ≠ [97, 116, 116, 114] ∧ k.toList ≠ []) then 11
     else if valC n i t ≠ 0 then valC n i t
     else if (op = 6 ∧ n = 3) ∨ (op = 7 ∧ n ≠ 1) then 13 else 0)
  else 12
set_option maxHeartbeats 8000000 in
theorem checkNode_0 (n i : Int) (f k t : ByteArray) (A : Option Addr) (c : Nat) (hf : f.size ≤ 9223372036854775807) (hk : k.size ≤ 9223372036854775807) (ht : t.size ≤ 9223372036854775807) (w : World) :
    Calls Tryz.prog 103 #[.agg #[.int .i64 0, .string f, .string k, .int .i64 n, .string t, .int .i64 i, .slice A 0 c]] w fun e w' => e = .returned (.int .i64 (nodeC 0 n i f k t)) ∧ Below w.heap.size w w' := by
  have hA : PredAt w w.heap.size 0 n i f k t A 0 c (w.alloc (.cells #[.int .i64 0, .string f, .string k, .int .i64 n, .string t, .int .i64 i, .slice A 0 c] 34)) := by
    refine ⟨?_, ?_, ?_, ?_, ?_, ?_, ?_, below_alloc _ _⟩ <;> simp only [World.cell?, heap_alloc_last] <;> rfl
  have HA := Lib.hid hA
  clear hA
  go_enter Tryz.func103, Tryz.ntmps103
  go_wp2_with fail
  go_region_held (fun W => W.cell? ⟨w.heap.size, 0, none⟩ = some (.int .i64 0) ∧ W.cell? ⟨w.heap.size, 1, none⟩ = some (.string f) ∧ W.cell? ⟨w.heap.size, 2, none⟩ = some (.string k) ∧ W.cell? ⟨w.heap.size, 3, none⟩ = some (.int .i64 n) ∧ W.cell? ⟨w.heap.size, 4, none⟩ = some (.string t) ∧ W.cell? ⟨w.heap.size, 5, none⟩ = some (.int .i64 i) ∧ W.cell? ⟨w.heap.size, 6, none⟩ = some (.slice A 0 c) ∧ Below w.heap.size w W)
    (first
      | exact HA.out.drew
      | exact PredAt.keep (w := w) (b := w.heap.size) (op := 0) (n := n) (i := i) (f := f) (k := k) (t := t) (A := A) (l := 0) (c := c) (by assumption) (by assumption))
    (first
      | (go_at_call 144; (with_reducible refine (isTest_any _ _ _ _ _ _ _ _ _ _).mono ?_); rintro e w' ⟨rfl, hbb⟩))
  rename_i hH
  have HH : Hid (PredAt w w.heap.size 0 n i f k t A 0 c _) := Lib.hid hH
  obtain ⟨g0, g1, g2, g3, g4, g5, g6, hB⟩ := hH
  have HB := Lib.hid hB
  clear hB HA
  have hT : isT 0 = false := rfl
  rw [hT]
  clear hT
  go_wp2_with (first
    | (go_at_call 95; (with_reducible refine (IsName_any _ (by assumption) _).mono ?_); rintro e w' ⟨rfl, rfl⟩)
    | (go_at_call 140; (with_reducible refine (CheckValue_any _ _ _ (by assumption) _).mono ?_); rintro e w' ⟨rfl, hbb⟩; obtain ⟨k0, k1, k2, k3, k4, k5, k6, hB2⟩ := HH.out.keep hbb; have HB2 := Lib.hid hB2; clear hB2 hbb))
  all_goals
    go_ret
    refine ⟨?_, ?_⟩
    · simp_all [nodeC]
    · first
        | exact HB2.out
        | exact HB.out
set_option maxHeartbeats 8000000 in
theorem checkNode_1 (n i : Int) (f k t : ByteArray) (A : Option Addr) (c : Nat) (hf : f.size ≤ 9223372036854775807) (hk : k.size ≤ 9223372036854775807) (ht : t.size ≤ 9223372036854775807) (w : World) :
    Calls Tryz.prog 103 #[.agg #[.int .i64 1, .string f, .string k, .int .i64 n, .string t, .int .i64 i, .slice A 0 c]] w fun e w' => e = .returned (.int .i64 (nodeC 1 n i f k t)) ∧ Below w.heap.size w w' := by
  have hA : PredAt w w.heap.size 1 n i f k t A 0 c (w.alloc (.cells #[.int .i64 1, .string f, .string k, .int .i64 n, .string t, .int .i64 i, .slice A 0 c] 34)) := by
    refine ⟨?_, ?_, ?_, ?_, ?_, ?_, ?_, below_alloc _ _⟩ <;> simp only [World.cell?, heap_alloc_last] <;> rfl
  have HA := Lib.hid hA
  clear hA
  go_enter Tryz.func103, Tryz.ntmps103
  go_wp2_with fail
  go_region_held (fun W => W.cell? ⟨w.heap.size, 0, none⟩ = some (.int .i64 1) ∧ W.cell? ⟨w.heap.size, 1, none⟩ = some (.string f) ∧ W.cell? ⟨w.heap.size, 2, none⟩ = some (.string k) ∧ W.cell? ⟨w.heap.size, 3, none⟩ = some (.int .i64 n) ∧ W.cell? ⟨w.heap.size, 4, none⟩ = some (.string t) ∧ W.cell? ⟨w.heap.size, 5, none⟩ = some (.int .i64 i) ∧ W.cell? ⟨w.heap.size, 6, none⟩ = some (.slice A 0 c) ∧ Below w.heap.size w W)
    (first
      | exact HA.out.drew
      | exact PredAt.keep (w := w) (b := w.heap.size) (op := 1) (n := n) (i := i) (f := f) (k := k) (t := t) (A := A) (l := 0) (c := c) (by assumption) (by assumption))
    (first
      | (go_at_call 144; (with_reducible refine (isTest_any _ _ _ _ _ _ _ _ _ _).mono ?_); rintro e w' ⟨rfl, hbb⟩))
  rename_i hH
  have HH : Hid (PredAt w w.heap.size 1 n i f k t A 0 c _) := Lib.hid hH
  obtain ⟨g0, g1, g2, g3, g4, g5, g6, hB⟩ := hH
  have HB := Lib.hid hB
  clear hB HA
  have hT : isT 1 = false := rfl
  rw [hT]
  clear hT
  go_wp2_with (first
    | (go_at_call 95; (with_reducible refine (IsName_any _ (by assumption) _).mono ?_); rintro e w' ⟨rfl, rfl⟩)
    | (go_at_call 140; (with_reducible refine (CheckValue_any _ _ _ (by assumption) _).mono ?_); rintro e w' ⟨rfl, hbb⟩; obtain ⟨k0, k1, k2, k3, k4, k5, k6, hB2⟩ := HH.out.keep hbb; have HB2 := Lib.hid hB2; clear hB2 hbb))
  all_goals
    go_ret
    refine ⟨?_, ?_⟩
    · simp_all [nodeC]
    · first
        | exact HB2.out
        | exact HB.out
set_option maxHeartbeats 8000000 in
theorem checkNode_2 (n i : Int) (f k t : ByteArray) (A : Option Addr) (c : Nat) (hf : f.size ≤ 9223372036854775807) (hk : k.size ≤ 9223372036854775807) (ht : t.size ≤ 9223372036854775807) (w : World) :
    Calls Tryz.prog 103 #[.agg #[.int .i64 2, .string f, .string k, .int .i64 n, .string t, .int .i64 i, .slice A 0 c]] w fun e w' => e = .returned (.int .i64 (nodeC 2 n i f k t)) ∧ Below w.heap.size w w' := by
  have hA : PredAt w w.heap.size 2 n i f k t A 0 c (w.alloc (.cells #[.int .i64 2, .string f, .string k, .int .i64 n, .string t, .int .i64 i, .slice A 0 c] 34)) := by
    refine ⟨?_, ?_, ?_, ?_, ?_, ?_, ?_, below_alloc _ _⟩ <;> simp only [World.cell?, heap_alloc_last] <;> rfl
  have HA := Lib.hid hA
  clear hA
  go_enter Tryz.func103, Tryz.ntmps103
  go_wp2_with fail
  go_region_held (fun W => W.cell? ⟨w.heap.size, 0, none⟩ = some (.int .i64 2) ∧ W.cell? ⟨w.heap.size, 1, none⟩ = some (.string f) ∧ W.cell? ⟨w.heap.size, 2, none⟩ = some (.string k) ∧ W.cell? ⟨w.heap.size, 3, none⟩ = some (.int .i64 n) ∧ W.cell? ⟨w.heap.size, 4, none⟩ = some (.string t) ∧ W.cell? ⟨w.heap.size, 5, none⟩ = some (.int .i64 i) ∧ W.cell? ⟨w.heap.size, 6, none⟩ = some (.slice A 0 c) ∧ Below w.heap.size w W)
    (first
      | exact HA.out.drew
      | exact PredAt.keep (w := w) (b := w.heap.size) (op := 2) (n := n) (i := i) (f := f) (k := k) (t := t) (A := A) (l := 0) (c := c) (by assumption) (by assumption))
    (first
      | (go_at_call 144; (with_reducible refine (isTest_any _ _ _ _ _ _ _ _ _ _).mono ?_); rintro e w' ⟨rfl, hbb⟩))
  rename_i hH
  have HH : Hid (PredAt w w.heap.size 2 n i f k t A 0 c _) := Lib.hid hH
  obtain ⟨g0, g1, g2, g3, g4, g5, g6, hB⟩ := hH
  have HB := Lib.hid hB
  clear hB HA
  have hT : isT 2 = false := rfl
  rw [hT]
  clear hT
  go_wp2_with (first
    | (go_at_call 95; (with_reducible refine (IsName_any _ (by assumption) _).mono ?_); rintro e w' ⟨rfl, rfl⟩)
    | (go_at_call 140; (with_reducible refine (CheckValue_any _ _ _ (by assumption) _).mono ?_); rintro e w' ⟨rfl, hbb⟩; obtain ⟨k0, k1, k2, k3, k4, k5, k6, hB2⟩ := HH.out.keep hbb; have HB2 := Lib.hid hB2; clear hB2 hbb))
  all_goals
    go_ret
    refine ⟨?_, ?_⟩
    · simp_all [nodeC]
    · first
        | exact HB2.out
        | exact HB.out
set_option maxHeartbeats 8000000 in
theorem checkNode_3 (n i : Int) (f k t : ByteArray) (A : Option Addr) (c : Nat) (hf : f.size ≤ 9223372036854775807) (hk : k.size ≤ 9223372036854775807) (ht : t.size ≤ 9223372036854775807) (w : World) :
    Calls Tryz.prog 103 #[.agg #[.int .i64 3, .string f, .string k, .int .i64 n, .string t, .int .i64 i, .slice A 0 c]] w fun e w' => e = .returned (.int .i64 (nodeC 3 n i f k t)) ∧ Below w.heap.size w w' := by
  have hA : PredAt w w.heap.size 3 n i f k t A 0 c (w.alloc (.cells #[.int .i64 3, .string f, .string k, .int .i64 n, .string t, .int .i64 i, .slice A 0 c] 34)) := by
    refine ⟨?_, ?_, ?_, ?_, ?_, ?_, ?_, below_alloc _ _⟩ <;> simp only [World.cell?, heap_alloc_last] <;> rfl
  have HA := Lib.hid hA
  clear hA
  go_enter Tryz.func103, Tryz.ntmps103
  go_wp2_with fail
  go_region_held (fun W => W.cell? ⟨w.heap.size, 0, none⟩ = some (.int .i64 3) ∧ W.cell? ⟨w.heap.size, 1, none⟩ = some (.string f) ∧ W.cell? ⟨w.heap.size, 2, none⟩ = some (.string k) ∧ W.cell? ⟨w.heap.size, 3, none⟩ = some (.int .i64 n) ∧ W.cell? ⟨w.heap.size, 4, none⟩ = some (.string t) ∧ W.cell? ⟨w.heap.size, 5, none⟩ = some (.int .i64 i) ∧ W.cell? ⟨w.heap.size, 6, none⟩ = some (.slice A 0 c) ∧ Below w.heap.size w W)
    (first
      | exact HA.out.drew
      | exact PredAt.keep (w := w) (b := w.heap.size) (op := 3) (n := n) (i := i) (f := f) (k := k) (t := t) (A := A) (l := 0) (c := c) (by assumption) (by assumption))
    (first
      | (go_at_call 144; (with_reducible refine (isTest_any _ _ _ _ _ _ _ _ _ _).mono ?_); rintro e w' ⟨rfl, hbb⟩))
  rename_i hH
  have HH : Hid (PredAt w w.heap.size 3 n i f k t A 0 c _) := Lib.hid hH
  obtain ⟨g0, g1, g2, g3, g4, g5, g6, hB⟩ := hH
  have HB := Lib.hid hB
  clear hB HA
  have hT : isT 3 = false := rfl
  rw [hT]
  clear hT
  go_wp2_with (first
    | (go_at_call 95; (with_reducible refine (IsName_any _ (by assumption) _).mono ?_); rintro e w' ⟨rfl, rfl⟩)
    | (go_at_call 140; (with_reducible refine (CheckValue_any _ _ _ (by assumption) _).mono ?_); rintro e w' ⟨rfl, hbb⟩; obtain ⟨k0, k1, k2, k3, k4, k5, k6, hB2⟩ := HH.out.keep hbb; have HB2 := Lib.hid hB2; clear hB2 hbb))
  all_goals
    go_ret
    refine ⟨?_, ?_⟩
    · simp_all [nodeC]
    · first
        | exact HB2.out
        | exact HB.out
set_option maxHeartbeats 8000000 in
theorem checkNode_4 (n i : Int) (f k t : ByteArray) (A : Option Addr) (c : Nat) (hf : f.size ≤ 9223372036854775807) (hk : k.size ≤ 9223372036854775807) (ht : t.size ≤ 9223372036854775807) (w : World) :
    Calls Tryz.prog 103 #[.agg #[.int .i64 4, .string f, .string k, .int .i64 n, .string t, .int .i64 i, .slice A 0 c]] w fun e w' => e = .returned (.int .i64 (nodeC 4 n i f k t)) ∧ Below w.heap.size w w' := by
  have hA : PredAt w w.heap.size 4 n i f k t A 0 c (w.alloc (.cells #[.int .i64 4, .string f, .string k, .int .i64 n, .string t, .int .i64 i, .slice A 0 c] 34)) := by
    refine ⟨?_, ?_, ?_, ?_, ?_, ?_, ?_, below_alloc _ _⟩ <;> simp only [World.cell?, heap_alloc_last] <;> rfl
  have HA := Lib.hid hA
  clear hA
  go_enter Tryz.func103, Tryz.ntmps103
  go_wp2_with fail
  go_region_held (fun W => W.cell? ⟨w.heap.size, 0, none⟩ = some (.int .i64 4) ∧ W.cell? ⟨w.heap.size, 1, none⟩ = some (.string f) ∧ W.cell? ⟨w.heap.size, 2, none⟩ = some (.string k) ∧ W.cell? ⟨w.heap.size, 3, none⟩ = some (.int .i64 n) ∧ W.cell? ⟨w.heap.size, 4, none⟩ = some (.string t) ∧ W.cell? ⟨w.heap.size, 5, none⟩ = some (.int .i64 i) ∧ W.cell? ⟨w.heap.size, 6, none⟩ = some (.slice A 0 c) ∧ Below w.heap.size w W)
    (first
      | exact HA.out.drew
      | exact PredAt.keep (w := w) (b := w.heap.size) (op := 4) (n := n) (i := i) (f := f) (k := k) (t := t) (A := A) (l := 0) (c := c) (by assumption) (by assumption))
    (first
      | (go_at_call 144; (with_reducible refine (isTest_any _ _ _ _ _ _ _ _ _ _).mono ?_); rintro e w' ⟨rfl, hbb⟩))
  rename_i hH
  have HH : Hid (PredAt w w.heap.size 4 n i f k t A 0 c _) := Lib.hid hH
  obtain ⟨g0, g1, g2, g3, g4, g5, g6, hB⟩ := hH
  have HB := Lib.hid hB
  clear hB HA
  have hT : isT 4 = false := rfl
  rw [hT]
  clear hT
  go_wp2_with (first
    | (go_at_call 95; (with_reducible refine (IsName_any _ (by assumption) _).mono ?_); rintro e w' ⟨rfl, rfl⟩)
    | (go_at_call 140; (with_reducible refine (CheckValue_any _ _ _ (by assumption) _).mono ?_); rintro e w' ⟨rfl, hbb⟩; obtain ⟨k0, k1, k2, k3, k4, k5, k6, hB2⟩ := HH.out.keep hbb; have HB2 := Lib.hid hB2; clear hB2 hbb))
  all_goals
    go_ret
    refine ⟨?_, ?_⟩
    · simp_all [nodeC]
    · first
        | exact HB2.out
        | exact HB.out
set_option maxHeartbeats 8000000 in
theorem checkNode_5 (n i : Int) (f k t : ByteArray) (A : Option Addr) (c : Nat) (hf : f.size ≤ 9223372036854775807) (hk : k.size ≤ 9223372036854775807) (ht : t.size ≤ 9223372036854775807) (w : World) :
    Calls Tryz.prog 103 #[.agg #[.int .i64 5, .string f, .string k, .int .i64 n, .string t, .int .i64 i, .slice A 0 c]] w fun e w' => e = .returned (.int .i64 (nodeC 5 n i f k t)) ∧ Below w.heap.size w w' := by
  have hA : PredAt w w.heap.size 5 n i f k t A 0 c (w.alloc (.cells #[.int .i64 5, .string f, .string k, .int .i64 n, .string t, .int .i64 i, .slice A 0 c] 34)) := by
    refine ⟨?_, ?_, ?_, ?_, ?_, ?_, ?_, below_alloc _ _⟩ <;> simp only [World.cell?, heap_alloc_last] <;> rfl
  have HA := Lib.hid hA
  clear hA
  go_enter Tryz.func103, Tryz.ntmps103
  go_wp2_with fail
  go_region_held (fun W => W.cell? ⟨w.heap.size, 0, none⟩ = some (.int .i64 5) ∧ W.cell? ⟨w.heap.size, 1, none⟩ = some (.string f) ∧ W.cell? ⟨w.heap.size, 2, none⟩ = some (.string k) ∧ W.cell? ⟨w.heap.size, 3, none⟩ = some (.int .i64 n) ∧ W.cell? ⟨w.heap.size, 4, none⟩ = some (.string t) ∧ W.cell? ⟨w.heap.size, 5, none⟩ = some (.int .i64 i) ∧ W.cell? ⟨w.heap.size, 6, none⟩ = some (.slice A 0 c) ∧ Below w.heap.size w W)
    (first
      | exact HA.out.drew
      | exact PredAt.keep (w := w) (b := w.heap.size) (op := 5) (n := n) (i := i) (f := f) (k := k) (t := t) (A := A) (l := 0) (c := c) (by assumption) (by assumption))
    (first
      | (go_at_call 144; (with_reducible refine (isTest_any _ _ _ _ _ _ _ _ _ _).mono ?_); rintro e w' ⟨rfl, hbb⟩))
  rename_i hH
  have HH : Hid (PredAt w w.heap.size 5 n i f k t A 0 c _) := Lib.hid hH
  obtain ⟨g0, g1, g2, g3, g4, g5, g6, hB⟩ := hH
  have HB := Lib.hid hB
  clear hB HA
  have hT : isT 5 = true := rfl
  rw [hT]
  clear hT
  go_wp2_with (first
    | (go_at_call 95; (with_reducible refine (IsName_any _ (by assumption) _).mono ?_); rintro e w' ⟨rfl, rfl⟩)
    | (go_at_call 140; (with_reducible refine (CheckValue_any _ _ _ (by assumption) _).mono ?_); rintro e w' ⟨rfl, hbb⟩; obtain ⟨k0, k1, k2, k3, k4, k5, k6, hB2⟩ := HH.out.keep hbb; have HB2 := Lib.hid hB2; clear hB2 hbb))
  all_goals
    go_ret
    refine ⟨?_, ?_⟩
    · simp_all [nodeC]
    · first
        | exact HB2.out
        | exact HB.out
set_option maxHeartbeats 8000000 in
theorem checkNode_6 (n i : Int) (f k t : ByteArray) (A : Option Addr) (c : Nat) (hf : f.size ≤ 9223372036854775807) (hk : k.size ≤ 9223372036854775807) (ht : t.size ≤ 9223372036854775807) (w : World) :
    Calls Tryz.prog 103 #[.agg #[.int .i64 6, .string f, .string k, .int .i64 n, .string t, .int .i64 i, .slice A 0 c]] w fun e w' => e = .returned (.int .i64 (nodeC 6 n i f k t)) ∧ Below w.heap.size w w' := by
  have hA : PredAt w w.heap.size 6 n i f k t A 0 c (w.alloc (.cells #[.int .i64 6, .string f, .string k, .int .i64 n, .string t, .int .i64 i, .slice A 0 c] 34)) := by
    refine ⟨?_, ?_, ?_, ?_, ?_, ?_, ?_, below_alloc _ _⟩ <;> simp only [World.cell?, heap_alloc_last] <;> rfl
  have HA := Lib.hid hA
  clear hA
  go_enter Tryz.func103, Tryz.ntmps103
  go_wp2_with fail
  go_region_held (fun W => W.cell? ⟨w.heap.size, 0, none⟩ = some (.int .i64 6) ∧ W.cell? ⟨w.heap.size, 1, none⟩ = some (.string f) ∧ W.cell? ⟨w.heap.size, 2, none⟩ = some (.string k) ∧ W.cell? ⟨w.heap.size, 3, none⟩ = some (.int .i64 n) ∧ W.cell? ⟨w.heap.size, 4, none⟩ = some (.string t) ∧ W.cell? ⟨w.heap.size, 5, none⟩ = some (.int .i64 i) ∧ W.cell? ⟨w.heap.size, 6, none⟩ = some (.slice A 0 c) ∧ Below w.heap.size w W)
    (first
      | exact HA.out.drew
      | exact PredAt.keep (w := w) (b := w.heap.size) (op := 6) (n := n) (i := i) (f := f) (k := k) (t := t) (A := A) (l := 0) (c := c) (by assumption) (by assumption))
    (first
      | (go_at_call 144; (with_reducible refine (isTest_any _ _ _ _ _ _ _ _ _ _).mono ?_); rintro e w' ⟨rfl, hbb⟩))
  rename_i hH
  have HH : Hid (PredAt w w.heap.size 6 n i f k t A 0 c _) := Lib.hid hH
  obtain ⟨g0, g1, g2, g3, g4, g5, g6, hB⟩ := hH
  have HB := Lib.hid hB
  clear hB HA
  have hT : isT 6 = true := rfl
  rw [hT]
  clear hT
  go_wp2_with (first
    | (go_at_call 95; (with_reducible refine (IsName_any _ (by assumption) _).mono ?_); rintro e w' ⟨rfl, rfl⟩)
    | (go_at_call 140; (with_reducible refine (CheckValue_any _ _ _ (by assumption) _).mono ?_); rintro e w' ⟨rfl, hbb⟩; obtain ⟨k0, k1, k2, k3, k4, k5, k6, hB2⟩ := HH.out.keep hbb; have HB2 := Lib.hid hB2; clear hB2 hbb))
  all_goals
    go_ret
    refine ⟨?_, ?_⟩
    · simp_all [nodeC]
    · first
        | exact HB2.out
        | exact HB.out
set_option maxHeartbeats 8000000 in
theorem checkNode_7 (n i : Int) (f k t : ByteArray) (A : Option Addr) (c : Nat) (hf : f.size ≤ 9223372036854775807) (hk : k.size ≤ 9223372036854775807) (ht : t.size ≤ 9223372036854775807) (w : World) :
    Calls Tryz.prog 103 #[.agg #[.int .i64 7, .string f, .string k, .int .i64 n, .string t, .int .i64 i, .slice A 0 c]] w fun e w' => e = .returned (.int .i64 (nodeC 7 n i f k t)) ∧ Below w.heap.size w w' := by
  have hA : PredAt w w.heap.size 7 n i f k t A 0 c (w.alloc (.cells #[.int .i64 7, .string f, .string k, .int .i64 n, .string t, .int .i64 i, .slice A 0 c] 34)) := by
    refine ⟨?_, ?_, ?_, ?_, ?_, ?_, ?_, below_alloc _ _⟩ <;> simp only [World.cell?, heap_alloc_last] <;> rfl
  have HA := Lib.hid hA
  clear hA
  go_enter Tryz.func103, Tryz.ntmps103
  go_wp2_with fail
  go_region_held (fun W => W.cell? ⟨w.heap.size, 0, none⟩ = some (.int .i64 7) ∧ W.cell? ⟨w.heap.size, 1, none⟩ = some (.string f) ∧ W.cell? ⟨w.heap.size, 2, none⟩ = some (.string k) ∧ W.cell? ⟨w.heap.size, 3, none⟩ = some (.int .i64 n) ∧ W.cell? ⟨w.heap.size, 4, none⟩ = some (.string t) ∧ W.cell? ⟨w.heap.size, 5, none⟩ = some (.int .i64 i) ∧ W.cell? ⟨w.heap.size, 6, none⟩ = some (.slice A 0 c) ∧ Below w.heap.size w W)
    (first
      | exact HA.out.drew
      | exact PredAt.keep (w := w) (b := w.heap.size) (op := 7) (n := n) (i := i) (f := f) (k := k) (t := t) (A := A) (l := 0) (c := c) (by assumption) (by assumption))
    (first
      | (go_at_call 144; (with_reducible refine (isTest_any _ _ _ _ _ _ _ _ _ _).mono ?_); rintro e w' ⟨rfl, hbb⟩))
  rename_i hH
  have HH : Hid (PredAt w w.heap.size 7 n i f k t A 0 c _) := Lib.hid hH
  obtain ⟨g0, g1, g2, g3, g4, g5, g6, hB⟩ := hH
  have HB := Lib.hid hB
  clear hB HA
  have hT : isT 7 = true := rfl
  rw [hT]
  clear hT
  go_wp2_with (first
    | (go_at_call 95; (with_reducible refine (IsName_any _ (by assumption) _).mono ?_); rintro e w' ⟨rfl, rfl⟩)
    | (go_at_call 140; (with_reducible refine (CheckValue_any _ _ _ (by assumption) _).mono ?_); rintro e w' ⟨rfl, hbb⟩; obtain ⟨k0, k1, k2, k3, k4, k5, k6, hB2⟩ := HH.out.keep hbb; have HB2 := Lib.hid hB2; clear hB2 hbb))
  all_goals
    go_ret
    refine ⟨?_, ?_⟩
    · simp_all [nodeC]
    · first
        | exact HB2.out
        | exact HB.out
theorem checkNode_other (op n i : Int) (f k t : ByteArray) (A : Option Addr) (c : Nat) (h0 : ¬ op = 0) (h1 : ¬ op = 1) (h2 : ¬ op = 2) (h3 : ¬ op = 3) (h4 : ¬ op = 4) (h5 : ¬ op = 5) (h6 : ¬ op = 6) (h7 : ¬ op = 7) (w : World) :
    Calls Tryz.prog 103 #[.agg #[.int .i64 op, .string f, .string k, .int .i64 n, .string t, .int .i64 i, .slice A 0 c]] w fun e w' => e = .returned (.int .i64 (nodeC op n i f k t)) ∧ Below w.heap.size w w' := by
  have e0 : (op == 0) = false := by simpa using h0
  have e1 : (op == 1) = false := by simpa using h1
  have e2 : (op == 2) = false := by simpa using h2
  have e3 : (op == 3) = false := by simpa using h3
  have e4 : (op == 4) = false := by simpa using h4
  have e5 : (op == 5) = false := by simpa using h5
  have e6 : (op == 6) = false := by simpa using h6
  have e7 : (op == 7) = false := by simpa using h7
  go_enter Tryz.func103, Tryz.ntmps103
  go_wp2_with fail
  all_goals
    go_ret
    refine ⟨?_, below_alloc _ _⟩
    simp [nodeC, *]
theorem checkNode_any (op n i : Int) (f k t : ByteArray) (A : Option Addr) (c : Nat) (hf : f.size ≤ 9223372036854775807) (hk : k.size ≤ 9223372036854775807) (ht : t.size ≤ 9223372036854775807) (w : World) :
    Calls Tryz.prog 103 #[.agg #[.int .i64 op, .string f, .string k, .int .i64 n, .string t, .int .i64 i, .slice A 0 c]] w fun e w' => e = .returned (.int .i64 (nodeC op n i f k t)) ∧ Below w.heap.size w w' := by
  by_cases h0 : op = 0
  · subst h0; exact checkNode_0 n i f k t A c hf hk ht w
  by_cases h1 : op = 1
  · subst h1; exact checkNode_1 n i f k t A c hf hk ht w
  by_cases h2 : op = 2
  · subst h2; exact checkNode_2 n i f k t A c hf hk ht w
  by_cases h3 : op = 3
  · subst h3; exact checkNode_3 n i f k t A c hf hk ht w
  by_cases h4 : op = 4
  · subst h4; exact checkNode_4 n i f k t A c hf hk ht w
  by_cases h5 : op = 5
  · subst h5; exact checkNode_5 n i f k t A c hf hk ht w
  by_cases h6 : op = 6
  · subst h6; exact checkNode_6 n i f k t A c hf hk ht w
  by_cases h7 : op = 7
  · subst h7; exact checkNode_7 n i f k t A c hf hk ht w
  exact checkNode_other op n i f k t A c h0 h1 h2 h3 h4 h5 h6 h7 w
end Go.Proofs.YtmhmnbaoanennaaGreatDoor
