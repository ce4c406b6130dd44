/- Contracts: the error of a predicate, of a sampling policy, and of a policy. -/
import Derived.Test.YtmhmnbaoanennaaGreatDoorNode
import Derived.Laws.EntriesVeiled
namespace Go.Proofs.YtmhmnbaoanennaaGreatDoor
open Go Go.Ev Go.Proofs Go.RowKit
set_option linter.unusedVariables false
set_option linter.unusedSimpArgs false

theorem cell_last (W : World) (cs : Array Value) (t : TypeId) (j : Nat) (v : Value) (n : Nat) (hn : n = W.heap.size) (hv : cs[j]? = some v) : (W.alloc (.cells cs t)).cell? ⟨n, j, none⟩ = some v := by
  subst hn
  simp only [World.cell?, heap_alloc_last]
  exact hv
theorem frozen_last (W : World) (cs : Array Value) (t : TypeId) (j : Nat) (n : Nat) (hn : n = W.heap.size) : (W.alloc (.cells cs t)).frozen? ⟨n, j, none⟩ = false := by
  subst hn
  simp only [World.frozen?, heap_alloc_last]
  simp
set_option maxHeartbeats 4000000 in
theorem visit_any (op n i : Int) (f k t : ByteArray) (A : Option Addr) (c : Nat) (b1 b2 : Nat) (hf : f.size ≤ 9223372036854775807) (hk : k.size ≤ 9223372036854775807) (ht : t.size ≤ 9223372036854775807) (w : World)
    (h1 : w.cell? ⟨b1, 0, none⟩ = some (.int .i64 0)) (h2 : w.frozen? ⟨b1, 0, none⟩ = false) :
    Calls Tryz.prog 102 #[.agg #[.int .i64 op, .string f, .string k, .int .i64 n, .string t, .int .i64 i, .slice A 0 c], .int .i64 1, .pointer (some ⟨b1, 0, none⟩), .pointer (some ⟨b2, 0, none⟩)] w fun e w' => e = .returned (.int .i64 (nodeC op n i f k t)) ∧ Below b1 w w' := by
  have hlt := World.block_lt_of_cell? w _ h1
  have e1 : (w.alloc (.cells #[.int .i64 op, .string f, .string k, .int .i64 n, .string t, .int .i64 i, .slice A 0 c] 34)).cell? ⟨b1, 0, none⟩ = some (.int .i64 0) := (World.cell?_alloc_lt _ _ _ hlt).trans h1
  have e2 : (w.alloc (.cells #[.int .i64 op, .string f, .string k, .int .i64 n, .string t, .int .i64 i, .slice A 0 c] 34)).frozen? ⟨b1, 0, none⟩ = false := ((below_alloc w _).frozen (p := ⟨b1, 0, none⟩) hlt).trans h2
  go_enter Tryz.func102, Tryz.ntmps102
  go_wp2_with (first
    | (go_at_call 103; (with_reducible refine (checkNode_any _ _ _ _ _ _ _ _ hf hk ht _).mono ?_); rintro e w' ⟨rfl, hbb⟩; have g6 := (hbb.cell (p := ⟨w.heap.size, 6, none⟩) (by simp)).trans (cell_last _ _ _ 6 _ _ (by simp) rfl); have HB := Lib.hid ((((Below.refl b1 w).setCell (p := ⟨b1, 0, none⟩) (Nat.le_refl _) _).alloc (by simp; omega) _).trans (hbb.mono (by simp; omega))); clear hbb))
  · go_ret
    exact ⟨rfl, HB.out⟩
  · rename_i hz _ _
    have hz0 : nodeC op n i f k t = 0 := by simpa using hz
    go_loopw [27] (fun j wr => j = .int .i64 0 ∧ Hid (Below b1 w wr)) (fun _ _ => 0)
    case atStart => exact ⟨rfl, HB⟩
    case round =>
      obtain ⟨rfl, HW⟩ := hrel
      go_wp2
      go_ret
      exact ⟨by rw [hz0]; rfl, HW.out⟩

theorem predCheck_any (op n i : Int) (f k t : ByteArray) (A : Option Addr) (c : Nat) (hf : f.size ≤ 9223372036854775807) (hk : k.size ≤ 9223372036854775807) (ht : t.size ≤ 9223372036854775807) (w : World) :
    Calls Tryz.prog 50 #[.agg #[.int .i64 op, .string f, .string k, .int .i64 n, .string t, .int .i64 i, .slice A 0 c]] w fun e w' => e = .returned (.int .i64 (nodeC op n i f k t)) ∧ Below w.heap.size w w' := by
  go_enter Tryz.func50, Tryz.ntmps50
  go_wp2_with fail
  (with_reducible refine (visit_any _ _ _ _ _ _ _ _ (w.heap.size + 1) (w.heap.size + 1 + 1) hf hk ht _ ?_ ?_).mono ?_)
  · exact (World.cell?_alloc_lt _ _ _ (by simp)).trans (cell_last _ _ _ 0 _ _ (by simp) rfl)
  · exact ((below_alloc _ _).frozen (p := ⟨w.heap.size + 1, 0, none⟩) (by simp)).trans (frozen_last _ _ _ 0 _ (by simp))
  · rintro e w' ⟨rfl, hbb⟩
    have HB := Lib.hid ((((below_alloc w _).alloc (by simp) _).alloc (by simp; omega) _).trans (hbb.mono (by omega)))
    clear hbb
    go_wp2
    go_ret
    exact ⟨rfl, HB.out⟩
end Go.Proofs.YtmhmnbaoanennaaGreatDoor
