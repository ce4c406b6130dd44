/- Part 2 of the proof: contracts. Contract: the value of a field of truth; Contract: the value of a field, joined; Contracts: a function that is true of an element of a list of predicates; Contract: does a span satisfy a predicate?; Contract: does a span satisfy a predicate? By its operation; Contract: does a span satisfy a predicate? The rest; Contracts: the exponent that a policy gives to a trace; Slices of structs, opened; A call that the evaluator comes through at plain arguments: its value, and where its blocks lie; A region that draws its order, by one relation over what has come up; blocks that are known whole; Contract. -/
import Derived.Test.YtnddlpfmagdbfaaGreatDoorMSamplesa
import Derived.Test.YtnddlpfmagdbfaaGreatDoorEvC
import Derived.Handy
import Derived.Deep.Slices
import Derived.KernelRfl
import Derived.Below
import Derived.Deep.RegionHeld3
import Derived.Deep.QuietTactic
import Derived.BigQuiet
/- Contract: the value of a field of truth. -/
namespace Go.Proofs.YtnddlpfmagdbfaaGreatDoor
open Go Go.Proofs Go.RowKit
set_option linter.unusedVariables false
set_option linter.unusedSimpArgs false
set_option maxHeartbeats 8000000 in
set_option maxRecDepth 20000 in
theorem val_err1 (x : SpanD) (f k : ByteArray) (w : World) (hf : ¬ f.toList = [97, 116, 116, 114]) (hs : hasS fieldsL f = true) (hk : k.toList = []) (hK : fkX f = 3) (h3 : f.toList = [101, 114, 114, 111, 114]) (h4 : x.err = true) :
    Calls Tryz.prog 133 #[.agg x.cells.toArray, .string f, .string k] w fun e w' => e = .returned (.tuple #[.agg #[.int .i64 3, .string ⟨#[]⟩, .int .i64 (numB true)], .bool true]) ∧ Below w.heap.size w w' := by
  have HG := Lib.hid (fieldKind_any f (valW x w))
  have HT := Lib.hid (fun W => (numB_any true W).mono (fun e w' h => (⟨h.1, by rw [h.2]; exact Below.refl _ _⟩ : e = .returned (.int .i64 (numB true)) ∧ Below W.heap.size W w')))
  have hR := Lib.hid (blkR x w)
  have hVV := Lib.hid (blkV x w)
  have hsz := Lib.hid (size_valW x w)
  have hB := Lib.hid (below_valW x w)
  rw [hs, hK] at HG
  simp only [if_true] at HG
  clear hf hs hK
  unfold valW at HG hR hsz hB hVV
  unfold SpanD.cells at HG hR hsz hB hVV ⊢
  simp only [h4] at HG hR hsz hB hVV ⊢
  clear h4
  go_enter Tryz.func133, Tryz.ntmps133
  go_wp2_with (first
    | (go_at_call 136; (with_reducible refine HG.out.mono ?_); rintro e w1 ⟨rfl, hg⟩; have hV := (Grew.alloc w1 (.cells #[.int .i64 3, .string ⟨#[]⟩, .int .i64 0] 31)).blk (blk_keep hg hVV.out); have v0 : (w1.alloc (.cells #[.int .i64 3, .string ⟨#[]⟩, .int .i64 0] 31)).cell? ⟨w.heap.size, 0, none⟩ = some (.int .i64 x.trace) := cell_blk hV 0 rfl; have v1 : (w1.alloc (.cells #[.int .i64 3, .string ⟨#[]⟩, .int .i64 0] 31)).cell? ⟨w.heap.size, 1, none⟩ = some (.int .i64 x.id) := cell_blk hV 1 rfl; have v2 : (w1.alloc (.cells #[.int .i64 3, .string ⟨#[]⟩, .int .i64 0] 31)).cell? ⟨w.heap.size, 2, none⟩ = some (.int .i64 x.parent) := cell_blk hV 2 rfl; have v3 : (w1.alloc (.cells #[.int .i64 3, .string ⟨#[]⟩, .int .i64 0] 31)).cell? ⟨w.heap.size, 3, none⟩ = some (.int .i64 x.rev) := cell_blk hV 3 rfl; have v4 : (w1.alloc (.cells #[.int .i64 3, .string ⟨#[]⟩, .int .i64 0] 31)).cell? ⟨w.heap.size, 4, none⟩ = some (.int .i64 x.clock) := cell_blk hV 4 rfl; have v5 : (w1.alloc (.cells #[.int .i64 3, .string ⟨#[]⟩, .int .i64 0] 31)).cell? ⟨w.heap.size, 5, none⟩ = some (.int .i64 x.kind) := cell_blk hV 5 rfl; have v6 : (w1.alloc (.cells #[.int .i64 3, .string ⟨#[]⟩, .int .i64 0] 31)).cell? ⟨w.heap.size, 6, none⟩ = some (.string x.svc) := cell_blk hV 6 rfl; have v7 : (w1.alloc (.cells #[.int .i64 3, .string ⟨#[]⟩, .int .i64 0] 31)).cell? ⟨w.heap.size, 7, none⟩ = some (.string x.ver) := cell_blk hV 7 rfl; have v8 : (w1.alloc (.cells #[.int .i64 3, .string ⟨#[]⟩, .int .i64 0] 31)).cell? ⟨w.heap.size, 8, none⟩ = some (.string x.op) := cell_blk hV 8 rfl; have v9 : (w1.alloc (.cells #[.int .i64 3, .string ⟨#[]⟩, .int .i64 0] 31)).cell? ⟨w.heap.size, 9, none⟩ = some (.int .i64 x.st) := cell_blk hV 9 rfl; have v10 : (w1.alloc (.cells #[.int .i64 3, .string ⟨#[]⟩, .int .i64 0] 31)).cell? ⟨w.heap.size, 10, none⟩ = some (.int .i64 x.en) := cell_blk hV 10 rfl; have v11 : (w1.alloc (.cells #[.int .i64 3, .string ⟨#[]⟩, .int .i64 0] 31)).cell? ⟨w.heap.size, 11, none⟩ = some (.bool true) := cell_blk hV 11 rfl; have v12 : (w1.alloc (.cells #[.int .i64 3, .string ⟨#[]⟩, .int .i64 0] 31)).cell? ⟨w.heap.size, 12, none⟩ = some (.slice x.aA x.attrs.length x.aC) := cell_blk hV 12 rfl; have v13 : (w1.alloc (.cells #[.int .i64 3, .string ⟨#[]⟩, .int .i64 0] 31)).cell? ⟨w.heap.size, 13, none⟩ = some (.slice x.lA x.links.length x.lC) := cell_blk hV 13 rfl; have hk1 := Lib.hid ((Grew.alloc w1 (.cells #[.int .i64 3, .string ⟨#[]⟩, .int .i64 0] 31)).blk (blk_keep hg hR.out)); have hT1 := Lib.hid (blk_new w1 #[.int .i64 3, .string ⟨#[]⟩, .int .i64 0] 31); have hs1 : Hid (w.heap.size + 2 ≤ w1.heap.size) := Lib.hid (by have h1 := hg.size; have h2 := hsz.out; omega); have hg1 := Lib.hid ((hB.out.trans (hg.mono hB.out.size)).alloc (by have := hs1.out; omega) (.cells #[.int .i64 3, .string ⟨#[]⟩, .int .i64 0] 31)); clear hV hg)
    | (go_at_call 83; (with_reducible refine (HT.out _).mono ?_); rintro e w2 ⟨rfl, hg2⟩; have hT2 := blk_keep hg2 hT1.out; have hk2 := blk_keep hg2 hk1.out; have z0 := cell_blk hT2 0 rfl; have z1 := cell_blk hT2 1 rfl; have z2 := cell_blk hT2 2 rfl; have zf := fun i => frozen_blk hT2 i; have y0 := cell_blk hk2 0 rfl; have y1 := cell_blk hk2 1 rfl; have y2 := cell_blk hk2 2 rfl; have hff := fun i => frozen_blk hk2 i; have hne : w.heap.size + 1 ≠ w1.heap.size := (by have := hs1.out; omega); have hg3 := Lib.hid (hg1.out.trans (hg2.mono (by have := hs1.out; simp; omega))); have hT2 := Lib.hid hT2; have hk2 := Lib.hid hk2; clear hg2))
  have hs2 := hs1.out
  refine ret_row_tmp (heap_setCell_same _ _ 2 _ _ _ (heap_setCell_same _ _ 1 _ _ _ (heap_setCell_same _ _ 0 _ _ _ ((heap_setCell_other _ ⟨w1.heap.size, 2, none⟩ _ _ hne).trans hk2.out)))) rfl rfl Tryz.underlying31 rfl (by kernel_rfl) rfl ?_
  exact ⟨rfl, (((hg3.out.setCell (p := ⟨w1.heap.size, 2, none⟩) (by simp; omega) _).setCell (p := ⟨w.heap.size + 1, 0, none⟩) (by simp) _).setCell (p := ⟨w.heap.size + 1, 1, none⟩) (by simp) _).setCell (p := ⟨w.heap.size + 1, 2, none⟩) (by simp) _⟩
set_option maxHeartbeats 8000000 in
set_option maxRecDepth 20000 in
theorem val_err0 (x : SpanD) (f k : ByteArray) (w : World) (hf : ¬ f.toList = [97, 116, 116, 114]) (hs : hasS fieldsL f = true) (hk : k.toList = []) (hK : fkX f = 3) (h3 : f.toList = [101, 114, 114, 111, 114]) (h4 : x.err = false) :
    Calls Tryz.prog 133 #[.agg x.cells.toArray, .string f, .string k] w fun e w' => e = .returned (.tuple #[.agg #[.int .i64 3, .string ⟨#[]⟩, .int .i64 (numB false)], .bool true]) ∧ Below w.heap.size w w' := by
  have HG := Lib.hid (fieldKind_any f (valW x w))
  have HT := Lib.hid (fun W => (numB_any false W).mono (fun e w' h => (⟨h.1, by rw [h.2]; exact Below.refl _ _⟩ : e = .returned (.int .i64 (numB false)) ∧ Below W.heap.size W w')))
  have hR := Lib.hid (blkR x w)
  have hVV := Lib.hid (blkV x w)
  have hsz := Lib.hid (size_valW x w)
  have hB := Lib.hid (below_valW x w)
  rw [hs, hK] at HG
  simp only [if_true] at HG
  clear hf hs hK
  unfold valW at HG hR hsz hB hVV
  unfold SpanD.cells at HG hR hsz hB hVV ⊢
  simp only [h4] at HG hR hsz hB hVV ⊢
  clear h4
  go_enter Tryz.func133, Tryz.ntmps133
  go_wp2_with (first
    | (go_at_call 136; (with_reducible refine HG.out.mono ?_); rintro e w1 ⟨rfl, hg⟩; have hV := (Grew.alloc w1 (.cells #[.int .i64 3, .string ⟨#[]⟩, .int .i64 0] 31)).blk (blk_keep hg hVV.out); have v0 : (w1.alloc (.cells #[.int .i64 3, .string ⟨#[]⟩, .int .i64 0] 31)).cell? ⟨w.heap.size, 0, none⟩ = some (.int .i64 x.trace) := cell_blk hV 0 rfl; have v1 : (w1.alloc (.cells #[.int .i64 3, .string ⟨#[]⟩, .int .i64 0] 31)).cell? ⟨w.heap.size, 1, none⟩ = some (.int .i64 x.id) := cell_blk hV 1 rfl; have v2 : (w1.alloc (.cells #[.int .i64 3, .string ⟨#[]⟩, .int .i64 0] 31)).cell? ⟨w.heap.size, 2, none⟩ = some (.int .i64 x.parent) := cell_blk hV 2 rfl; have v3 : (w1.alloc (.cells #[.int .i64 3, .string ⟨#[]⟩, .int .i64 0] 31)).cell? ⟨w.heap.size, 3, none⟩ = some (.int .i64 x.rev) := cell_blk hV 3 rfl; have v4 : (w1.alloc (.cells #[.int .i64 3, .string ⟨#[]⟩, .int .i64 0] 31)).cell? ⟨w.heap.size, 4, none⟩ = some (.int .i64 x.clock) := cell_blk hV 4 rfl; have v5 : (w1.alloc (.cells #[.int .i64 3, .string ⟨#[]⟩, .int .i64 0] 31)).cell? ⟨w.heap.size, 5, none⟩ = some (.int .i64 x.kind) := cell_blk hV 5 rfl; have v6 : (w1.alloc (.cells #[.int .i64 3, .string ⟨#[]⟩, .int .i64 0] 31)).cell? ⟨w.heap.size, 6, none⟩ = some (.string x.svc) := cell_blk hV 6 rfl; have v7 : (w1.alloc (.cells #[.int .i64 3, .string ⟨#[]⟩, .int .i64 0] 31)).cell? ⟨w.heap.size, 7, none⟩ = some (.string x.ver) := cell_blk hV 7 rfl; have v8 : (w1.alloc (.cells #[.int .i64 3, .string ⟨#[]⟩, .int .i64 0] 31)).cell? ⟨w.heap.size, 8, none⟩ = some (.string x.op) := cell_blk hV 8 rfl; have v9 : (w1.alloc (.cells #[.int .i64 3, .string ⟨#[]⟩, .int .i64 0] 31)).cell? ⟨w.heap.size, 9, none⟩ = some (.int .i64 x.st) := cell_blk hV 9 rfl; have v10 : (w1.alloc (.cells #[.int .i64 3, .string ⟨#[]⟩, .int .i64 0] 31)).cell? ⟨w.heap.size, 10, none⟩ = some (.int .i64 x.en) := cell_blk hV 10 rfl; have v11 : (w1.alloc (.cells #[.int .i64 3, .string ⟨#[]⟩, .int .i64 0] 31)).cell? ⟨w.heap.size, 11, none⟩ = some (.bool false) := cell_blk hV 11 rfl; have v12 : (w1.alloc (.cells #[.int .i64 3, .string ⟨#[]⟩, .int .i64 0] 31)).cell? ⟨w.heap.size, 12, none⟩ = some (.slice x.aA x.attrs.length x.aC) := cell_blk hV 12 rfl; have v13 : (w1.alloc (.cells #[.int .i64 3, .string ⟨#[]⟩, .int .i64 0] 31)).cell? ⟨w.heap.size, 13, none⟩ = some (.slice x.lA x.links.length x.lC) := cell_blk hV 13 rfl; have hk1 := Lib.hid ((Grew.alloc w1 (.cells #[.int .i64 3, .string ⟨#[]⟩, .int .i64 0] 31)).blk (blk_keep hg hR.out)); have hT1 := Lib.hid (blk_new w1 #[.int .i64 3, .string ⟨#[]⟩, .int .i64 0] 31); have hs1 : Hid (w.heap.size + 2 ≤ w1.heap.size) := Lib.hid (by have h1 := hg.size; have h2 := hsz.out; omega); have hg1 := Lib.hid ((hB.out.trans (hg.mono hB.out.size)).alloc (by have := hs1.out; omega) (.cells #[.int .i64 3, .string ⟨#[]⟩, .int .i64 0] 31)); clear hV hg)
    | (go_at_call 83; (with_reducible refine (HT.out _).mono ?_); rintro e w2 ⟨rfl, hg2⟩; have hT2 := blk_keep hg2 hT1.out; have hk2 := blk_keep hg2 hk1.out; have z0 := cell_blk hT2 0 rfl; have z1 := cell_blk hT2 1 rfl; have z2 := cell_blk hT2 2 rfl; have zf := fun i => frozen_blk hT2 i; have y0 := cell_blk hk2 0 rfl; have y1 := cell_blk hk2 1 rfl; have y2 := cell_blk hk2 2 rfl; have hff := fun i => frozen_blk hk2 i; have hne : w.heap.size + 1 ≠ w1.heap.size := (by have := hs1.out; omega); have hg3 := Lib.hid (hg1.out.trans (hg2.mono (by have := hs1.out; simp; omega))); have hT2 := Lib.hid hT2; have hk2 := Lib.hid hk2; clear hg2))
  have hs2 := hs1.out
  refine ret_row_tmp (heap_setCell_same _ _ 2 _ _ _ (heap_setCell_same _ _ 1 _ _ _ (heap_setCell_same _ _ 0 _ _ _ ((heap_setCell_other _ ⟨w1.heap.size, 2, none⟩ _ _ hne).trans hk2.out)))) rfl rfl Tryz.underlying31 rfl (by kernel_rfl) rfl ?_
  exact ⟨rfl, (((hg3.out.setCell (p := ⟨w1.heap.size, 2, none⟩) (by simp; omega) _).setCell (p := ⟨w.heap.size + 1, 0, none⟩) (by simp) _).setCell (p := ⟨w.heap.size + 1, 1, none⟩) (by simp) _).setCell (p := ⟨w.heap.size + 1, 2, none⟩) (by simp) _⟩
set_option maxHeartbeats 8000000 in
set_option maxRecDepth 20000 in
theorem val_root1 (x : SpanD) (f k : ByteArray) (w : World) (hf : ¬ f.toList = [97, 116, 116, 114]) (hs : hasS fieldsL f = true) (hk : k.toList = []) (hK : fkX f = 3) (h3 : f.toList = [114, 111, 111, 116]) (h4 : (x.parent == 0) = true) :
    Calls Tryz.prog 133 #[.agg x.cells.toArray, .string f, .string k] w fun e w' => e = .returned (.tuple #[.agg #[.int .i64 3, .string ⟨#[]⟩, .int .i64 (numB true)], .bool true]) ∧ Below w.heap.size w w' := by
  have HG := Lib.hid (fieldKind_any f (valW x w))
  have HT := Lib.hid (fun W => (numB_any true W).mono (fun e w' h => (⟨h.1, by rw [h.2]; exact Below.refl _ _⟩ : e = .returned (.int .i64 (numB true)) ∧ Below W.heap.size W w')))
  have hR := Lib.hid (blkR x w)
  have hVV := Lib.hid (blkV x w)
  have hsz := Lib.hid (size_valW x w)
  have hB := Lib.hid (below_valW x w)
  rw [hs, hK] at HG
  simp only [if_true] at HG
  clear hf hs hK
  unfold valW at HG hR hsz hB hVV
  unfold SpanD.cells at HG hR hsz hB ⊢
  go_enter Tryz.func133, Tryz.ntmps133
  go_wp2_with (first
    | (go_at_call 136; (with_reducible refine HG.out.mono ?_); rintro e w1 ⟨rfl, hg⟩; have hV := (Grew.alloc w1 (.cells #[.int .i64 3, .string ⟨#[]⟩, .int .i64 0] 31)).blk (blk_keep hg hVV.out); have v0 : (w1.alloc (.cells #[.int .i64 3, .string ⟨#[]⟩, .int .i64 0] 31)).cell? ⟨w.heap.size, 0, none⟩ = some (.int .i64 x.trace) := cell_blk hV 0 rfl; have v1 : (w1.alloc (.cells #[.int .i64 3, .string ⟨#[]⟩, .int .i64 0] 31)).cell? ⟨w.heap.size, 1, none⟩ = some (.int .i64 x.id) := cell_blk hV 1 rfl; have v2 : (w1.alloc (.cells #[.int .i64 3, .string ⟨#[]⟩, .int .i64 0] 31)).cell? ⟨w.heap.size, 2, none⟩ = some (.int .i64 x.parent) := cell_blk hV 2 rfl; have v3 : (w1.alloc (.cells #[.int .i64 3, .string ⟨#[]⟩, .int .i64 0] 31)).cell? ⟨w.heap.size, 3, none⟩ = some (.int .i64 x.rev) := cell_blk hV 3 rfl; have v4 : (w1.alloc (.cells #[.int .i64 3, .string ⟨#[]⟩, .int .i64 0] 31)).cell? ⟨w.heap.size, 4, none⟩ = some (.int .i64 x.clock) := cell_blk hV 4 rfl; have v5 : (w1.alloc (.cells #[.int .i64 3, .string ⟨#[]⟩, .int .i64 0] 31)).cell? ⟨w.heap.size, 5, none⟩ = some (.int .i64 x.kind) := cell_blk hV 5 rfl; have v6 : (w1.alloc (.cells #[.int .i64 3, .string ⟨#[]⟩, .int .i64 0] 31)).cell? ⟨w.heap.size, 6, none⟩ = some (.string x.svc) := cell_blk hV 6 rfl; have v7 : (w1.alloc (.cells #[.int .i64 3, .string ⟨#[]⟩, .int .i64 0] 31)).cell? ⟨w.heap.size, 7, none⟩ = some (.string x.ver) := cell_blk hV 7 rfl; have v8 : (w1.alloc (.cells #[.int .i64 3, .string ⟨#[]⟩, .int .i64 0] 31)).cell? ⟨w.heap.size, 8, none⟩ = some (.string x.op) := cell_blk hV 8 rfl; have v9 : (w1.alloc (.cells #[.int .i64 3, .string ⟨#[]⟩, .int .i64 0] 31)).cell? ⟨w.heap.size, 9, none⟩ = some (.int .i64 x.st) := cell_blk hV 9 rfl; have v10 : (w1.alloc (.cells #[.int .i64 3, .string ⟨#[]⟩, .int .i64 0] 31)).cell? ⟨w.heap.size, 10, none⟩ = some (.int .i64 x.en) := cell_blk hV 10 rfl; have v11 : (w1.alloc (.cells #[.int .i64 3, .string ⟨#[]⟩, .int .i64 0] 31)).cell? ⟨w.heap.size, 11, none⟩ = some (.bool x.err) := cell_blk hV 11 rfl; have v12 : (w1.alloc (.cells #[.int .i64 3, .string ⟨#[]⟩, .int .i64 0] 31)).cell? ⟨w.heap.size, 12, none⟩ = some (.slice x.aA x.attrs.length x.aC) := cell_blk hV 12 rfl; have v13 : (w1.alloc (.cells #[.int .i64 3, .string ⟨#[]⟩, .int .i64 0] 31)).cell? ⟨w.heap.size, 13, none⟩ = some (.slice x.lA x.links.length x.lC) := cell_blk hV 13 rfl; have hk1 := Lib.hid ((Grew.alloc w1 (.cells #[.int .i64 3, .string ⟨#[]⟩, .int .i64 0] 31)).blk (blk_keep hg hR.out)); have hT1 := Lib.hid (blk_new w1 #[.int .i64 3, .string ⟨#[]⟩, .int .i64 0] 31); have hs1 : Hid (w.heap.size + 2 ≤ w1.heap.size) := Lib.hid (by have h1 := hg.size; have h2 := hsz.out; unfold SpanD.cells at h2; omega); have hg1 := Lib.hid ((hB.out.trans (hg.mono hB.out.size)).alloc (by have := hs1.out; omega) (.cells #[.int .i64 3, .string ⟨#[]⟩, .int .i64 0] 31)); clear hV hg)
    | (go_at_call 83; (with_reducible refine (HT.out _).mono ?_); rintro e w2 ⟨rfl, hg2⟩; have hT2 := blk_keep hg2 hT1.out; have hk2 := blk_keep hg2 hk1.out; have z0 := cell_blk hT2 0 rfl; have z1 := cell_blk hT2 1 rfl; have z2 := cell_blk hT2 2 rfl; have zf := fun i => frozen_blk hT2 i; have y0 := cell_blk hk2 0 rfl; have y1 := cell_blk hk2 1 rfl; have y2 := cell_blk hk2 2 rfl; have hff := fun i => frozen_blk hk2 i; have hne : w.heap.size + 1 ≠ w1.heap.size := (by have := hs1.out; omega); have hg3 := Lib.hid (hg1.out.trans (hg2.mono (by have := hs1.out; simp; omega))); have hT2 := Lib.hid hT2; have hk2 := Lib.hid hk2; clear hg2))
  have hs2 := hs1.out
  refine ret_row_tmp (heap_setCell_same _ _ 2 _ _ _ (heap_setCell_same _ _ 1 _ _ _ (heap_setCell_same _ _ 0 _ _ _ ((heap_setCell_other _ ⟨w1.heap.size, 2, none⟩ _ _ hne).trans hk2.out)))) rfl rfl Tryz.underlying31 rfl (by kernel_rfl) rfl ?_
  exact ⟨rfl, (((hg3.out.setCell (p := ⟨w1.heap.size, 2, none⟩) (by simp; omega) _).setCell (p := ⟨w.heap.size + 1, 0, none⟩) (by simp) _).setCell (p := ⟨w.heap.size + 1, 1, none⟩) (by simp) _).setCell (p := ⟨w.heap.size + 1, 2, none⟩) (by simp) _⟩
set_option maxHeartbeats 8000000 in
set_option maxRecDepth 20000 in
theorem val_root0 (x : SpanD) (f k : ByteArray) (w : World) (hf : ¬ f.toList = [97, 116, 116, 114]) (hs : hasS fieldsL f = true) (hk : k.toList = []) (hK : fkX f = 3) (h3 : f.toList = [114, 111, 111, 116]) (h4 : (x.parent == 0) = false) :
    Calls Tryz.prog 133 #[.agg x.cells.toArray, .string f, .string k] w fun e w' => e = .returned (.tuple #[.agg #[.int .i64 3, .string ⟨#[]⟩, .int .i64 (numB false)], .bool true]) ∧ Below w.heap.size w w' := by
  have HG := Lib.hid (fieldKind_any f (valW x w))
  have HT := Lib.hid (fun W => (numB_any false W).mono (fun e w' h => (⟨h.1, by rw [h.2]; exact Below.refl _ _⟩ : e = .returned (.int .i64 (numB false)) ∧ Below W.heap.size W w')))
  have hR := Lib.hid (blkR x w)
  have hVV := Lib.hid (blkV x w)
  have hsz := Lib.hid (size_valW x w)
  have hB := Lib.hid (below_valW x w)
  rw [hs, hK] at HG
  simp only [if_true] at HG
  clear hf hs hK
  unfold valW at HG hR hsz hB hVV
  unfold SpanD.cells at HG hR hsz hB ⊢
  go_enter Tryz.func133, Tryz.ntmps133
  go_wp2_with (first
    | (go_at_call 136; (with_reducible refine HG.out.mono ?_); rintro e w1 ⟨rfl, hg⟩; have hV := (Grew.alloc w1 (.cells #[.int .i64 3, .string ⟨#[]⟩, .int .i64 0] 31)).blk (blk_keep hg hVV.out); have v0 : (w1.alloc (.cells #[.int .i64 3, .string ⟨#[]⟩, .int .i64 0] 31)).cell? ⟨w.heap.size, 0, none⟩ = some (.int .i64 x.trace) := cell_blk hV 0 rfl; have v1 : (w1.alloc (.cells #[.int .i64 3, .string ⟨#[]⟩, .int .i64 0] 31)).cell? ⟨w.heap.size, 1, none⟩ = some (.int .i64 x.id) := cell_blk hV 1 rfl; have v2 : (w1.alloc (.cells #[.int .i64 3, .string ⟨#[]⟩, .int .i64 0] 31)).cell? ⟨w.heap.size, 2, none⟩ = some (.int .i64 x.parent) := cell_blk hV 2 rfl; have v3 : (w1.alloc (.cells #[.int .i64 3, .string ⟨#[]⟩, .int .i64 0] 31)).cell? ⟨w.heap.size, 3, none⟩ = some (.int .i64 x.rev) := cell_blk hV 3 rfl; have v4 : (w1.alloc (.cells #[.int .i64 3, .string ⟨#[]⟩, .int .i64 0] 31)).cell? ⟨w.heap.size, 4, none⟩ = some (.int .i64 x.clock) := cell_blk hV 4 rfl; have v5 : (w1.alloc (.cells #[.int .i64 3, .string ⟨#[]⟩, .int .i64 0] 31)).cell? ⟨w.heap.size, 5, none⟩ = some (.int .i64 x.kind) := cell_blk hV 5 rfl; have v6 : (w1.alloc (.cells #[.int .i64 3, .string ⟨#[]⟩, .int .i64 0] 31)).cell? ⟨w.heap.size, 6, none⟩ = some (.string x.svc) := cell_blk hV 6 rfl; have v7 : (w1.alloc (.cells #[.int .i64 3, .string ⟨#[]⟩, .int .i64 0] 31)).cell? ⟨w.heap.size, 7, none⟩ = some (.string x.ver) := cell_blk hV 7 rfl; have v8 : (w1.alloc (.cells #[.int .i64 3, .string ⟨#[]⟩, .int .i64 0] 31)).cell? ⟨w.heap.size, 8, none⟩ = some (.string x.op) := cell_blk hV 8 rfl; have v9 : (w1.alloc (.cells #[.int .i64 3, .string ⟨#[]⟩, .int .i64 0] 31)).cell? ⟨w.heap.size, 9, none⟩ = some (.int .i64 x.st) := cell_blk hV 9 rfl; have v10 : (w1.alloc (.cells #[.int .i64 3, .string ⟨#[]⟩, .int .i64 0] 31)).cell? ⟨w.heap.size, 10, none⟩ = some (.int .i64 x.en) := cell_blk hV 10 rfl; have v11 : (w1.alloc (.cells #[.int .i64 3, .string ⟨#[]⟩, .int .i64 0] 31)).cell? ⟨w.heap.size, 11, none⟩ = some (.bool x.err) := cell_blk hV 11 rfl; have v12 : (w1.alloc (.cells #[.int .i64 3, .string ⟨#[]⟩, .int .i64 0] 31)).cell? ⟨w.heap.size, 12, none⟩ = some (.slice x.aA x.attrs.length x.aC) := cell_blk hV 12 rfl; have v13 : (w1.alloc (.cells #[.int .i64 3, .string ⟨#[]⟩, .int .i64 0] 31)).cell? ⟨w.heap.size, 13, none⟩ = some (.slice x.lA x.links.length x.lC) := cell_blk hV 13 rfl; have hk1 := Lib.hid ((Grew.alloc w1 (.cells #[.int .i64 3, .string ⟨#[]⟩, .int .i64 0] 31)).blk (blk_keep hg hR.out)); have hT1 := Lib.hid (blk_new w1 #[.int .i64 3, .string ⟨#[]⟩, .int .i64 0] 31); have hs1 : Hid (w.heap.size + 2 ≤ w1.heap.size) := Lib.hid (by have h1 := hg.size; have h2 := hsz.out; unfold SpanD.cells at h2; omega); have hg1 := Lib.hid ((hB.out.trans (hg.mono hB.out.size)).alloc (by have := hs1.out; omega) (.cells #[.int .i64 3, .string ⟨#[]⟩, .int .i64 0] 31)); clear hV hg)
    | (go_at_call 83; (with_reducible refine (HT.out _).mono ?_); rintro e w2 ⟨rfl, hg2⟩; have hT2 := blk_keep hg2 hT1.out; have hk2 := blk_keep hg2 hk1.out; have z0 := cell_blk hT2 0 rfl; have z1 := cell_blk hT2 1 rfl; have z2 := cell_blk hT2 2 rfl; have zf := fun i => frozen_blk hT2 i; have y0 := cell_blk hk2 0 rfl; have y1 := cell_blk hk2 1 rfl; have y2 := cell_blk hk2 2 rfl; have hff := fun i => frozen_blk hk2 i; have hne : w.heap.size + 1 ≠ w1.heap.size := (by have := hs1.out; omega); have hg3 := Lib.hid (hg1.out.trans (hg2.mono (by have := hs1.out; simp; omega))); have hT2 := Lib.hid hT2; have hk2 := Lib.hid hk2; clear hg2))
  have hs2 := hs1.out
  refine ret_row_tmp (heap_setCell_same _ _ 2 _ _ _ (heap_setCell_same _ _ 1 _ _ _ (heap_setCell_same _ _ 0 _ _ _ ((heap_setCell_other _ ⟨w1.heap.size, 2, none⟩ _ _ hne).trans hk2.out)))) rfl rfl Tryz.underlying31 rfl (by kernel_rfl) rfl ?_
  exact ⟨rfl, (((hg3.out.setCell (p := ⟨w1.heap.size, 2, none⟩) (by simp; omega) _).setCell (p := ⟨w.heap.size + 1, 0, none⟩) (by simp) _).setCell (p := ⟨w.heap.size + 1, 1, none⟩) (by simp) _).setCell (p := ⟨w.heap.size + 1, 2, none⟩) (by simp) _⟩
end Go.Proofs.YtnddlpfmagdbfaaGreatDoor
/- Contract: the value of a field, joined. -/
namespace Go.Proofs.YtnddlpfmagdbfaaGreatDoor
open Go Go.Proofs Go.RowKit
set_option linter.unusedVariables false
set_option linter.unusedSimpArgs false
def valV (v : (Int × ByteArray × Int) × Bool) : Value := .tuple #[.agg #[.int .i64 v.1.1, .string v.1.2.1, .int .i64 v.1.2.2], .bool v.2]
theorem val_any (x : SpanD) (f k : ByteArray) (w : World) (hx : x.Held w) (hl : x.attrs.length ≤ 1000000) :
    Calls Tryz.prog 133 #[.agg x.cells.toArray, .string f, .string k] w fun e w' => e = .returned (valV (valX x f k)) ∧ Below w.heap.size w w' := by
  unfold valX
  by_cases hf : f.toList = [97, 116, 116, 114]
  · rw [if_pos hf]
    exact val_attr x f k w hx hl hf
  · rw [if_neg hf]
    by_cases hk : hasS fieldsL f = false ∨ k.toList ≠ []
    · rw [if_pos hk]
      exact val_none x f k w hf hk
    · rw [if_neg hk]
      have hs : hasS fieldsL f = true := by
        cases h : hasS fieldsL f
        · exact absurd (.inl h) hk
        · rfl
      have hk2 : k.toList = [] := by
        by_cases h : k.toList = []
        · exact h
        · exact absurd (.inr h) hk
      by_cases h1 : fkX f = 1
      · rw [if_pos h1]
        exact val_text x f k w hf hs hk2 h1
      · rw [if_neg h1]
        by_cases h2 : fkX f = 2
        · rw [if_pos h2]
          exact val_num x f k w hf hs hk2 h2
        · rw [if_neg h2]
          have h3 : fkX f = 3 := by
            revert h1 h2
            unfold fkX
            split
            · simp
            · split <;> simp
          have h4 : f.toList = [101, 114, 114, 111, 114] ∨ f.toList = [114, 111, 111, 116] := by
            revert h3
            unfold fkX
            split
            · simp
            · split
              · rename_i h; intro _; exact h
              · simp
          rcases h4 with h4 | h4
          · cases he : x.err
            · have : boolX x f = false := by unfold boolX; rw [h4, he]; rfl
              rw [this]
              exact val_err0 x f k w hf hs hk2 h3 h4 he
            · have : boolX x f = true := by unfold boolX; rw [h4, he]; rfl
              rw [this]
              exact val_err1 x f k w hf hs hk2 h3 h4 he
          · cases he : x.parent == 0
            · have : boolX x f = false := by unfold boolX; rw [h4, he]; rfl
              rw [this]
              exact val_root0 x f k w hf hs hk2 h3 h4 he
            · have : boolX x f = true := by unfold boolX; rw [h4, he]; rfl
              rw [this]
              exact val_root1 x f k w hf hs hk2 h3 h4 he
/-- A test of a value. -/
structure TestD where
  op : Int
  field : ByteArray
  key : ByteArray
  kind : Int
  text : ByteArray
  num : Int
def satX (p : TestD) (v : Int × ByteArray × Int) : Bool :=
  if v.1 ≠ p.kind then false
  else if p.op = 5 then (v.1 == p.kind && v.2.1.toList == p.text.toList && v.2.2 == p.num)
  else if p.op = 6 then decide (orI [cmpI v.1 p.kind, cmpS v.2.1 p.text, cmpI v.2.2 p.num] < 0)
  else preS v.2.1 p.text
set_option maxHeartbeats 4000000 in
set_option maxRecDepth 20000 in
theorem sat_any (p : TestD) (A : Option Addr) (n c : Nat) (k : Int) (t : ByteArray) (m : Int) (w : World) (ht : t.size ≤ 9223372036854775807) (hp : p.text.size ≤ 9223372036854775807) :
    Calls Tryz.prog 77 #[.agg #[.int .i64 p.op, .string p.field, .string p.key, .int .i64 p.kind, .string p.text, .int .i64 p.num, .slice A n c], .agg #[.int .i64 k, .string t, .int .i64 m]] w fun e w' => e = .returned (.bool (satX p (k, t, m))) ∧ Below w.heap.size w w' := by
  have hB := fun a b a' b' => Lib.hid (((Below.refl _ w).alloc (Nat.le_refl _) (.cells a b)).alloc (by simp) (.cells a' b'))
  by_cases h1 : k = p.kind
  · subst h1
    by_cases h5 : p.op = 5
    · have hv : Hid (satX p (p.kind, t, m) = (t.toList == p.text.toList && m == p.num)) := Lib.hid (by unfold satX; simp [h5])
      have h5b : (p.op == 5) = true := by rw [h5]; rfl
      clear h5
      go_enter Tryz.func77, Tryz.ntmps77
      go_wp2
      all_goals
        go_ret
        refine ⟨?_, (hB _ _ _ _).out⟩
        rw [hv.out]
        simp_all
    · by_cases h6 : p.op = 6
      · have hv : Hid (satX p (p.kind, t, m) = decide (cmpV ⟨⟨#[]⟩, p.kind, t, m⟩ ⟨⟨#[]⟩, p.kind, p.text, p.num⟩ < 0)) := Lib.hid (by unfold satX cmpV; simp [h6])
        have h5b : (p.op == 5) = false := by rw [h6]; rfl
        have h6b : (p.op == 6) = true := by rw [h6]; rfl
        have hc := Lib.hid (cmpV_any ⟨⟨#[]⟩, p.kind, t, m⟩ ⟨⟨#[]⟩, p.kind, p.text, p.num⟩)
        generalize cmpV ⟨⟨#[]⟩, p.kind, t, m⟩ ⟨⟨#[]⟩, p.kind, p.text, p.num⟩ = r at *
        clear h5 h6
        go_enter Tryz.func77, Tryz.ntmps77
        go_wp2_with (first
          | (go_at_call 92; (with_reducible refine (hc.out _).mono ?_); rintro e w' ⟨rfl, hg⟩; have hg := Lib.hid hg))
        go_ret
        exact ⟨by rw [hv.out]; rfl, (hB _ _ _ _).out.trans (hg.out.b.mono (by simp; omega))⟩
      · have hv : Hid (satX p (p.kind, t, m) = preS t p.text) := Lib.hid (by unfold satX; simp [h5, h6])
        have h5b : (p.op == 5) = false := by rw [beq_eq_false_iff_ne]; exact h5
        have h6b : (p.op == 6) = false := by rw [beq_eq_false_iff_ne]; exact h6
        have hc := Lib.hid (fun W => prefixS_any t p.text W ht hp)
        clear h5 h6
        go_enter Tryz.func77, Tryz.ntmps77
        go_wp2_with (first
          | (go_at_call 93; (with_reducible refine (hc.out _).mono ?_); rintro e w' ⟨rfl, rfl⟩))
        go_ret
        exact ⟨by rw [hv.out]; rfl, (hB _ _ _ _).out⟩
  · have hv : Hid (satX p (k, t, m) = false) := Lib.hid (by unfold satX; rw [if_pos h1])
    have h1b : (k != p.kind) = true := by rw [bne_iff_ne]; exact h1
    clear h1
    go_enter Tryz.func77, Tryz.ntmps77
    go_wp2
    all_goals
      go_ret
      refine ⟨?_, (hB _ _ _ _).out⟩
      rw [hv.out]
      rfl
end Go.Proofs.YtnddlpfmagdbfaaGreatDoor
/- Contracts: a function that is true of an element of a list of predicates. -/
namespace Go.Proofs.YtnddlpfmagdbfaaGreatDoor
open Go Go.Proofs Go.RowKit
set_option linter.unusedVariables false
set_option linter.unusedSimpArgs false
/-- A predicate. -/
inductive PredD where
  | mk (t : TestD) (A : Option Addr) (c : Nat) (args : List PredD)
def PredD.t : PredD → TestD | .mk t _ _ _ => t
def PredD.A : PredD → Option Addr | .mk _ A _ _ => A
def PredD.c : PredD → Nat | .mk _ _ c _ => c
def PredD.args : PredD → List PredD | .mk _ _ _ l => l
def PredD.cells (p : PredD) : List Value := [.int .i64 p.t.op, .string p.t.field, .string p.t.key, .int .i64 p.t.kind, .string p.t.text, .int .i64 p.t.num, .slice p.A p.args.length p.c]
/-- A predicate lies at an address. -/
structure PredIs (W : World) (a : Addr) (p : PredD) : Prop where
  c0 : W.cell? a = some (.int .i64 p.t.op)
  c1 : W.cell? ⟨a.block, a.off + 1, none⟩ = some (.string p.t.field)
  c2 : W.cell? ⟨a.block, a.off + 2, none⟩ = some (.string p.t.key)
  c3 : W.cell? ⟨a.block, a.off + 3, none⟩ = some (.int .i64 p.t.kind)
  c4 : W.cell? ⟨a.block, a.off + 4, none⟩ = some (.string p.t.text)
  c5 : W.cell? ⟨a.block, a.off + 5, none⟩ = some (.int .i64 p.t.num)
  c6 : W.cell? ⟨a.block, a.off + 6, none⟩ = some (.slice p.A p.args.length p.c)
theorem PredIs.below {W W' : World} {a : Addr} {p : PredD} (h : PredIs W a p) (k : Below W.heap.size W W') : PredIs W' a p := by
  have c : ∀ {p : Addr} {v : Value}, W.cell? p = some v → W'.cell? p = some v := fun hc => (k.cell (World.block_lt_of_cell? W _ hc)).trans hc
  exact ⟨c h.c0, c h.c1, c h.c2, c h.c3, c h.c4, c h.c5, c h.c6⟩
def PredsAt (W : World) (a : Option Addr) (L : List PredD) : Prop := ∀ j (h : j < L.length), ∃ ad, a = some ad ∧ PredIs W (ad.add (j * 7)) L[j]
theorem PredsAt.below {W W' : World} {a : Option Addr} {L : List PredD} (h : PredsAt W a L) (k : Below W.heap.size W W') : PredsAt W' a L := fun j hj =>
  let ⟨ad, h1, h2⟩ := h j hj
  ⟨ad, h1, h2.below k⟩
def anyI (r : Nat → Bool) (n : Nat) : Bool := (List.range n).any r
theorem anyI_false {r : Nat → Bool} {n : Nat} (h : ∀ j, j < n → r j = false) : anyI r n = false := by
  unfold anyI
  rw [List.any_eq_false]
  intro j hj
  rw [h j (List.mem_range.1 hj)]
  simp
theorem anyI_true {r : Nat → Bool} {n j : Nat} (hj : j < n) (h : r j = true) : anyI r n = true := by
  unfold anyI
  rw [List.any_eq_true]
  exact ⟨j, List.mem_range.2 hj, h⟩
set_option maxHeartbeats 2000000 in
theorem indexP_any (a : Option Addr) (L : List PredD) (c n : Nat) (hn : n = L.length) (P : Option Addr) (r : Nat → Bool) (w : World) (h : PredsAt w a L) (hl : L.length ≤ 1000000)
    (hk : ∀ j (h : j < L.length) W, Below w.heap.size w W → Calls Tryz.prog 74 #[.agg L[j].cells.toArray, .pointer P] W fun e w' => e = .returned (.bool (r j)) ∧ Below W.heap.size W w') :
    Calls Tryz.prog 91 #[.slice a n c, .func (.func 74) #[] #[.pointer P]] w fun e w' => (∃ i : Int, e = .returned (.int .i64 i) ∧ decide (0 ≤ i) = anyI r L.length) ∧ Below w.heap.size w w' := by
  subst hn
  have HR := Lib.hid h
  have HK := Lib.hid hk
  clear h hk
  go_enter Tryz.func91, Tryz.ntmps91
  go_wp2_with fail
  go_loopw [5, 8] (fun t i wr => ∃ j : Nat, j ≤ L.length ∧ i = .int .i64 j ∧ Hid (∀ m, m < j → r m = false) ∧ Hid (Below w.heap.size w wr)) (fun _ i _ => L.length - (intOf i).toNat)
  case atStart => exact ⟨0, by omega, rfl, Lib.hid (fun m hm => by omega), Lib.hid (Below.refl _ _)⟩
  case round =>
    obtain ⟨j, hj, rfl, hG, hW⟩ := hrel
    by_cases hlt : j < L.length
    · have hlt2 : decide (j < L.length) = true := decide_eq_true hlt
      obtain ⟨ad, rfl, g0, g1, g2, g3, g4, g5, g6⟩ := (HR.out.below hW.out) j hlt
      have hc := Lib.hid (HK.out j hlt wr hW.out)
      generalize L[j] = x at *
      unfold PredD.cells at hc
      cases hr : r j
      · have hn : Hid (∀ m, m < j + 1 → r m = false) := Lib.hid (fun m hm => by
          by_cases hmj : m = j
          · subst hmj; exact hr
          · exact hG.out m (by omega))
        rw [hr] at hc
        clear hr
        go_wp2_with (first
          | (go_at_call 74; (with_reducible refine hc.out.mono ?_); rintro e w' ⟨rfl, hb⟩; have hb := Lib.hid hb))
        exact ⟨⟨j + 1, by omega, by go_num, hn, Lib.hid (hW.out.trans (hb.out.mono hW.out.size))⟩, by simp [intOf]; omega⟩
      · have hn := Lib.hid (anyI_true hlt hr)
        rw [hr] at hc
        clear hr
        go_wp2_with (first
          | (go_at_call 74; (with_reducible refine hc.out.mono ?_); rintro e w' ⟨rfl, hb⟩; have hb := Lib.hid hb))
        go_ret
        exact ⟨⟨_, rfl, by rw [hn.out]; simp⟩, hW.out.trans (hb.out.mono hW.out.size)⟩
    · obtain rfl : j = L.length := by omega
      have hlt2 : decide (L.length < L.length) = false := decide_eq_false hlt
      have hn := Lib.hid (anyI_false hG.out)
      go_wp2_with fail
      go_ret
      exact ⟨⟨_, rfl, by rw [hn.out]; simp⟩, hW.out⟩
theorem containsP_any (a : Option Addr) (L : List PredD) (c n : Nat) (hn : n = L.length) (P : Option Addr) (r : Nat → Bool) (w : World) (h : PredsAt w a L) (hl : L.length ≤ 1000000)
    (hk : ∀ j (h : j < L.length) W, Below w.heap.size w W → Calls Tryz.prog 74 #[.agg L[j].cells.toArray, .pointer P] W fun e w' => e = .returned (.bool (r j)) ∧ Below W.heap.size W w') :
    Calls Tryz.prog 75 #[.slice a n c, .func (.func 74) #[] #[.pointer P]] w fun e w' => e = .returned (.bool (anyI r L.length)) ∧ Below w.heap.size w w' := by
  have hi := Lib.hid (indexP_any a L c n hn P r w h hl hk)
  clear hn h hk
  go_enter Tryz.func75, Tryz.ntmps75
  go_wp2_with (first
    | (go_at_call 91; (with_reducible refine hi.out.mono ?_); rintro e w' ⟨⟨i, rfl, hr⟩, hb⟩; have hr := Lib.hid hr; have hb := Lib.hid hb))
  go_ret
  exact ⟨by rw [← hr.out]; rfl, hb.out⟩
set_option maxHeartbeats 2000000 in
theorem indexQ_any (a : Option Addr) (L : List PredD) (c n : Nat) (hn : n = L.length) (P : Option Addr) (r : Nat → Bool) (w : World) (h : PredsAt w a L) (hl : L.length ≤ 1000000)
    (hk : ∀ j (h : j < L.length) W, Below w.heap.size w W → Calls Tryz.prog 76 #[.agg L[j].cells.toArray, .pointer P] W fun e w' => e = .returned (.bool (r j)) ∧ Below W.heap.size W w') :
    Calls Tryz.prog 91 #[.slice a n c, .func (.func 76) #[] #[.pointer P]] w fun e w' => (∃ i : Int, e = .returned (.int .i64 i) ∧ decide (0 ≤ i) = anyI r L.length) ∧ Below w.heap.size w w' := by
  subst hn
  have HR := Lib.hid h
  have HK := Lib.hid hk
  clear h hk
  go_enter Tryz.func91, Tryz.ntmps91
  go_wp2_with fail
  go_loopw [5, 8] (fun t i wr => ∃ j : Nat, j ≤ L.length ∧ i = .int .i64 j ∧ Hid (∀ m, m < j → r m = false) ∧ Hid (Below w.heap.size w wr)) (fun _ i _ => L.length - (intOf i).toNat)
  case atStart => exact ⟨0, by omega, rfl, Lib.hid (fun m hm => by omega), Lib.hid (Below.refl _ _)⟩
  case round =>
    obtain ⟨j, hj, rfl, hG, hW⟩ := hrel
    by_cases hlt : j < L.length
    · have hlt2 : decide (j < L.length) = true := decide_eq_true hlt
      obtain ⟨ad, rfl, g0, g1, g2, g3, g4, g5, g6⟩ := (HR.out.below hW.out) j hlt
      have hc := Lib.hid (HK.out j hlt wr hW.out)
      generalize L[j] = x at *
      unfold PredD.cells at hc
      cases hr : r j
      · have hn : Hid (∀ m, m < j + 1 → r m = false) := Lib.hid (fun m hm => by
          by_cases hmj : m = j
          · subst hmj; exact hr
          · exact hG.out m (by omega))
        rw [hr] at hc
        clear hr
        go_wp2_with (first
          | (go_at_call 76; (with_reducible refine hc.out.mono ?_); rintro e w' ⟨rfl, hb⟩; have hb := Lib.hid hb))
        exact ⟨⟨j + 1, by omega, by go_num, hn, Lib.hid (hW.out.trans (hb.out.mono hW.out.size))⟩, by simp [intOf]; omega⟩
      · have hn := Lib.hid (anyI_true hlt hr)
        rw [hr] at hc
        clear hr
        go_wp2_with (first
          | (go_at_call 76; (with_reducible refine hc.out.mono ?_); rintro e w' ⟨rfl, hb⟩; have hb := Lib.hid hb))
        go_ret
        exact ⟨⟨_, rfl, by rw [hn.out]; simp⟩, hW.out.trans (hb.out.mono hW.out.size)⟩
    · obtain rfl : j = L.length := by omega
      have hlt2 : decide (L.length < L.length) = false := decide_eq_false hlt
      have hn := Lib.hid (anyI_false hG.out)
      go_wp2_with fail
      go_ret
      exact ⟨⟨_, rfl, by rw [hn.out]; simp⟩, hW.out⟩
theorem containsQ_any (a : Option Addr) (L : List PredD) (c n : Nat) (hn : n = L.length) (P : Option Addr) (r : Nat → Bool) (w : World) (h : PredsAt w a L) (hl : L.length ≤ 1000000)
    (hk : ∀ j (h : j < L.length) W, Below w.heap.size w W → Calls Tryz.prog 76 #[.agg L[j].cells.toArray, .pointer P] W fun e w' => e = .returned (.bool (r j)) ∧ Below W.heap.size W w') :
    Calls Tryz.prog 75 #[.slice a n c, .func (.func 76) #[] #[.pointer P]] w fun e w' => e = .returned (.bool (anyI r L.length)) ∧ Below w.heap.size w w' := by
  have hi := Lib.hid (indexQ_any a L c n hn P r w h hl hk)
  clear hn h hk
  go_enter Tryz.func75, Tryz.ntmps75
  go_wp2_with (first
    | (go_at_call 91; (with_reducible refine hi.out.mono ?_); rintro e w' ⟨⟨i, rfl, hr⟩, hb⟩; have hr := Lib.hid hr; have hb := Lib.hid hb))
  go_ret
  exact ⟨by rw [← hr.out]; rfl, hb.out⟩
end Go.Proofs.YtnddlpfmagdbfaaGreatDoor
/- Contract: does a span satisfy a predicate? -/
namespace Go.Proofs.YtnddlpfmagdbfaaGreatDoor
open Go Go.Proofs Go.RowKit
set_option linter.unusedVariables false
set_option linter.unusedSimpArgs false
/-- Does a span satisfy a predicate (of so many levels at most)? -/
def holdsX : Nat → PredD → SpanD → Bool
  | 0, _, _ => false
  | n + 1, p, x =>
    if p.t.op = 0 then true
    else if p.t.op = 1 then !(anyI (fun j => match p.args[j]? with | some q => !(holdsX n q x) | none => false) p.args.length)
    else if p.t.op = 2 then anyI (fun j => match p.args[j]? with | some q => holdsX n q x | none => false) p.args.length
    else if p.t.op = 3 then !(match p.args[0]? with | some q => holdsX n q x | none => false)
    else if p.t.op = 4 then (valX x ⟨#[97, 116, 116, 114]⟩ p.t.key).2
    else (valX x p.t.field p.t.key).2 && satX p.t (valX x p.t.field p.t.key).1
def PredOK : Nat → World → PredD → Prop
  | 0, _, _ => False
  | n + 1, W, p => (PredsAt W p.A p.args ∧ p.args.length ≤ 1000000 ∧ p.t.text.size ≤ 9223372036854775807 ∧ (p.t.op = 3 → 0 < p.args.length)) ∧ ∀ q, q ∈ p.args → PredOK n W q
/-- A predicate of so many levels lies there. -/
def PredLie : Nat → World → PredD → Prop
  | 0, _, _ => False
  | n + 1, W, p => (PredsAt W p.A p.args ∧ p.args.length ≤ 1000000 ∧ p.t.text.size ≤ 9223372036854775807) ∧ ∀ q, q ∈ p.args → PredLie n W q
theorem PredLie.below : ∀ {n : Nat} {W W' : World} {p : PredD}, PredLie n W p → Below W.heap.size W W' → PredLie n W' p
  | 0, _, _, _, h, _ => h
  | n + 1, _, _, _, h, k => ⟨⟨h.1.1.below k, h.1.2⟩, fun q hq => (h.2 q hq).below k⟩
theorem PredOK.lie : ∀ {n : Nat} {W : World} {p : PredD}, PredOK n W p → PredLie n W p
  | 0, _, _, h => h
  | n + 1, _, _, h => ⟨⟨h.1.1, h.1.2.1, h.1.2.2.1⟩, fun q hq => (h.2 q hq).lie⟩
theorem PredOK.below : ∀ {n : Nat} {W W' : World} {p : PredD}, PredOK n W p → Below W.heap.size W W' → PredOK n W' p
  | 0, _, _, _, h, _ => h
  | n + 1, _, _, _, h, k => ⟨⟨h.1.1.below k, h.1.2⟩, fun q hq => (h.2 q hq).below k⟩
/-- A span whose strings are no longer than strings can be. -/
structure SpanD.Str (x : SpanD) : Prop where
  svc : x.svc.size ≤ 9223372036854775807
  ver : x.ver.size ≤ 9223372036854775807
  op : x.op.size ≤ 9223372036854775807
  attrs : ∀ a ∈ x.attrs, a.text.size ≤ 9223372036854775807
  na : x.attrs.length ≤ 1000000
/-- A span whose strings are no longer than strings can be, with any number of attributes. -/
structure SpanD.Txt (x : SpanD) : Prop where
  svc : x.svc.size ≤ 9223372036854775807
  ver : x.ver.size ≤ 9223372036854775807
  op : x.op.size ≤ 9223372036854775807
  attrs : ∀ a ∈ x.attrs, a.key.size ≤ 9223372036854775807 ∧ a.text.size ≤ 9223372036854775807
theorem SpanD.Txt.str {x : SpanD} (h : x.Txt) (hn : x.attrs.length ≤ 1000000) : x.Str := ⟨h.svc, h.ver, h.op, fun a ha => (h.attrs a ha).2, hn⟩
theorem val_size {x : SpanD} (h : x.Str) (f k : ByteArray) : (valX x f k).1.2.1.size ≤ 9223372036854775807 := by
  unfold valX
  split
  · show (getX x.attrs k).2.1.size ≤ _
    unfold getX
    split
    · rename_i hx
      unfold hasX at hx
      simp only [Bool.and_eq_true, decide_eq_true_eq] at hx
      rw [ga_eq hx.1]
      exact h.attrs _ (List.getElem_mem _)
    · decide
  · split
    · decide
    · split
      · show (textX x f).size ≤ _
        unfold textX
        split
        · unfold kindX
          repeat' split
          all_goals decide
        · split
          · exact h.op
          · split
            · exact h.svc
            · exact h.ver
      · split <;> exact Nat.zero_le _
/-- The contract of Holds at predicates of n levels. -/
def HoldsC (n : Nat) : Prop := ∀ (p : PredD) (x : SpanD) (w : World), PredOK n w p → x.Held w → x.Str →
  Calls Tryz.prog 59 #[.agg p.cells.toArray, .iface 118 (.agg x.cells.toArray)] w fun e w' => e = .returned (.bool (holdsX n p x)) ∧ Below w.heap.size w w'
set_option maxHeartbeats 2000000 in
theorem hold1_any {n : Nat} (ih : HoldsC n) (q : PredD) (x : SpanD) (b : Nat) (w : World) (hq : PredOK n w q) (hx : x.Held w) (hs : x.Str) (hb : w.cell? ⟨b, 0, none⟩ = some (.iface 118 (.agg x.cells.toArray))) :
    Calls Tryz.prog 74 #[.agg q.cells.toArray, .pointer (some ⟨b, 0, none⟩)] w fun e w' => e = .returned (.bool (holdsX n q x)) ∧ Below w.heap.size w w' := by
  have hc := Lib.hid (ih q x (w.alloc (.cells q.cells.toArray 34)) (hq.below ((Below.refl _ _).alloc (Nat.le_refl _) _)) (hx.grew (Grew.alloc _ _)) hs)
  have hb1 := (Grew.alloc w (.cells q.cells.toArray 34)).cell hb
  unfold PredD.cells at hc hb1 ⊢
  clear hb
  go_enter Tryz.func74, Tryz.ntmps74
  go_wp2_with (first
    | (go_at_call 59; (with_reducible refine hc.out.mono ?_); rintro e w' ⟨rfl, hg⟩; have hg := Lib.hid hg))
  go_ret
  exact ⟨rfl, ((Below.refl _ w).alloc (Nat.le_refl _) _).trans (hg.out.mono (by simp))⟩
set_option maxHeartbeats 2000000 in
theorem hold2_any {n : Nat} (ih : HoldsC n) (q : PredD) (x : SpanD) (b b2 : Nat) (w : World) (hq : PredOK n w q) (hx : x.Held w) (hs : x.Str) (hb : w.cell? ⟨b, 0, none⟩ = some (.iface 118 (.agg x.cells.toArray))) (hb2 : w.cell? ⟨b2, 0, none⟩ = some (.func (.func 74) #[] #[.pointer (some ⟨b, 0, none⟩)])) :
    Calls Tryz.prog 76 #[.agg q.cells.toArray, .pointer (some ⟨b2, 0, none⟩)] w fun e w' => e = .returned (.bool (!(holdsX n q x))) ∧ Below w.heap.size w w' := by
  have hc := Lib.hid (hold1_any ih q x b (w.alloc (.cells q.cells.toArray 34)) (hq.below ((Below.refl _ _).alloc (Nat.le_refl _) _)) (hx.grew (Grew.alloc _ _)) hs ((Grew.alloc _ _).cell hb))
  have hb1 := (Grew.alloc w (.cells q.cells.toArray 34)).cell hb2
  unfold PredD.cells at hc hb1 ⊢
  clear hb hb2
  go_enter Tryz.func76, Tryz.ntmps76
  go_wp2_with (first
    | (go_at_call 74; (with_reducible refine hc.out.mono ?_); rintro e w' ⟨rfl, hg⟩; have hg := Lib.hid hg))
  go_ret
  exact ⟨rfl, ((Below.refl _ w).alloc (Nat.le_refl _) _).trans (hg.out.mono (by simp))⟩
/-- The world in which Holds works. -/
def holdW (p : PredD) (x : SpanD) (w : World) : World := ((w.alloc (.cells p.cells.toArray 34)).alloc (.cells #[.iface 118 (.agg x.cells.toArray)] 141)).alloc (.cells #[.func (.func 74) #[] #[.pointer (some ⟨w.heap.size + 1, 0, none⟩)]] 126)
structure HoldW (p : PredD) (x : SpanD) (w W : World) : Prop where
  g : Below w.heap.size w W
  s : w.heap.size + 3 ≤ W.heap.size
  p : W.heap[w.heap.size]? = some (.cells p.cells.toArray 34 (0, 0))
  i : W.cell? ⟨w.heap.size + 1, 0, none⟩ = some (.iface 118 (.agg x.cells.toArray))
  f : W.cell? ⟨w.heap.size + 1 + 1, 0, none⟩ = some (.func (.func 74) #[] #[.pointer (some ⟨w.heap.size + 1, 0, none⟩)])
theorem HoldW.start (p : PredD) (x : SpanD) (w : World) : HoldW p x w (holdW p x w) := by
  unfold holdW
  refine ⟨(((Below.refl _ w).alloc (Nat.le_refl _) _).alloc (by simp) _).alloc (by simp; omega) _, by simp, ?_, ?_, ?_⟩
  · exact ((Grew.alloc _ _).trans (Grew.alloc _ _)).blk (blk_new _ _ _)
  · exact (Grew.alloc _ _).cell (cell_new _ _ _ _ _ _ (by simp) rfl)
  · exact cell_new _ _ _ _ _ _ (by simp) rfl
theorem HoldW.below {p : PredD} {x : SpanD} {w W W' : World} (h : HoldW p x w W) (k : Below W.heap.size W W') : HoldW p x w W' := by
  have c : ∀ {p : Addr} {v : Value}, W.cell? p = some v → W'.cell? p = some v := fun hc => (k.cell (World.block_lt_of_cell? W _ hc)).trans hc
  exact ⟨h.g.trans (k.mono h.g.size), Nat.le_trans h.s k.size, blk_keep k h.p, c h.i, c h.f⟩
end Go.Proofs.YtnddlpfmagdbfaaGreatDoor
/- Contract: does a span satisfy a predicate? By its operation. -/
namespace Go.Proofs.YtnddlpfmagdbfaaGreatDoor
open Go Go.Proofs Go.RowKit
set_option linter.unusedVariables false
set_option linter.unusedSimpArgs false
set_option maxHeartbeats 4000000 in
set_option maxRecDepth 20000 in
theorem holds_true {n : Nat} (ih : HoldsC n) (p : PredD) (x : SpanD) (w : World) (hp : PredOK (n + 1) w p) (hx : x.Held w) (hs : x.Str) (ho : p.t.op = 0) :
    Calls Tryz.prog 59 #[.agg p.cells.toArray, .iface 118 (.agg x.cells.toArray)] w fun e w' => e = .returned (.bool (holdsX (n + 1) p x)) ∧ Below w.heap.size w w' := by
  have hS := HoldW.start p x w
  have hv : Hid (holdsX (n + 1) p x = true) := Lib.hid (by rw [holdsX, if_pos ho])
  have q0 : (p.t.op == 0) = true := by rw [ho]; rfl
  have q1 : (p.t.op == 1) = false := by rw [ho]; rfl
  have q2 : (p.t.op == 2) = false := by rw [ho]; rfl
  have q3 : (p.t.op == 3) = false := by rw [ho]; rfl
  have q4 : (p.t.op == 4) = false := by rw [ho]; rfl
  clear ho
  unfold holdW at hS
  generalize hcx : Value.agg x.cells.toArray = vx at *
  unfold PredD.cells at hS ⊢
  have HS := Lib.hid hS
  clear hS hp hx
  go_enter Tryz.func59, Tryz.ntmps59
  go_wp2_with fail
  go_ret
  exact ⟨by rw [hv.out]; rfl, HS.out.g⟩
set_option maxHeartbeats 4000000 in
set_option maxRecDepth 20000 in
theorem holds_and {n : Nat} (ih : HoldsC n) (p : PredD) (x : SpanD) (w : World) (hp : PredOK (n + 1) w p) (hx : x.Held w) (hs : x.Str) (ho : p.t.op = 1) :
    Calls Tryz.prog 59 #[.agg p.cells.toArray, .iface 118 (.agg x.cells.toArray)] w fun e w' => e = .returned (.bool (holdsX (n + 1) p x)) ∧ Below w.heap.size w w' := by
  have hS := HoldW.start p x w
  have hv : Hid (holdsX (n + 1) p x = !(anyI (fun j => match p.args[j]? with | some q => !(holdsX n q x) | none => false) p.args.length)) := Lib.hid (by rw [holdsX, if_neg (by omega), if_pos ho] <;> exact congrArg (fun f => !(anyI f p.args.length)) (funext fun j => by cases p.args[j]? <;> rfl))
  have hc := Lib.hid (fun W (h : HoldW p x w W) => containsQ_any p.A p.args p.c p.args.length rfl (some ⟨w.heap.size + 1 + 1, 0, none⟩) (fun j => match p.args[j]? with | some q => !(holdsX n q x) | none => false) W (hp.1.1.below h.g) hp.1.2.1 (fun j hj W' hW => by
    rw [List.getElem?_eq_getElem hj]
    have h2 := h.below hW
    exact hold2_any ih _ x _ _ W' ((hp.2 _ (List.getElem_mem hj)).below h2.g) (hx.keeps W' h2.g) hs h2.i h2.f))
  generalize anyI (fun j => match p.args[j]? with | some q => !(holdsX n q x) | none => false) p.args.length = r at *
  have q0 : (p.t.op == 0) = false := by rw [ho]; rfl
  have q1 : (p.t.op == 1) = true := by rw [ho]; rfl
  have q2 : (p.t.op == 2) = false := by rw [ho]; rfl
  have q3 : (p.t.op == 3) = false := by rw [ho]; rfl
  have q4 : (p.t.op == 4) = false := by rw [ho]; rfl
  clear ho
  unfold holdW at hS
  generalize hcx : Value.agg x.cells.toArray = vx at *
  unfold PredD.cells at hS ⊢
  have HS := Lib.hid hS
  clear hS hp hx
  go_enter Tryz.func59, Tryz.ntmps59
  go_wp2_with (first
    | (go_at_call 75; (with_reducible refine (hc.out _ HS.out).mono ?_); rintro e w' ⟨rfl, hg⟩; have hg := Lib.hid hg))
  go_ret
  exact ⟨by rw [hv.out]; rfl, (HS.out.below hg.out).g⟩
set_option maxHeartbeats 4000000 in
set_option maxRecDepth 20000 in
theorem holds_or {n : Nat} (ih : HoldsC n) (p : PredD) (x : SpanD) (w : World) (hp : PredOK (n + 1) w p) (hx : x.Held w) (hs : x.Str) (ho : p.t.op = 2) :
    Calls Tryz.prog 59 #[.agg p.cells.toArray, .iface 118 (.agg x.cells.toArray)] w fun e w' => e = .returned (.bool (holdsX (n + 1) p x)) ∧ Below w.heap.size w w' := by
  have hS := HoldW.start p x w
  have hv : Hid (holdsX (n + 1) p x = anyI (fun j => match p.args[j]? with | some q => holdsX n q x | none => false) p.args.length) := Lib.hid (by rw [holdsX, if_neg (by omega), if_neg (by omega), if_pos ho] <;> exact congrArg (fun f => anyI f p.args.length) (funext fun j => by cases p.args[j]? <;> rfl))
  have hc := Lib.hid (fun W (h : HoldW p x w W) => containsP_any p.A p.args p.c p.args.length rfl (some ⟨w.heap.size + 1, 0, none⟩) (fun j => match p.args[j]? with | some q => holdsX n q x | none => false) W (hp.1.1.below h.g) hp.1.2.1 (fun j hj W' hW => by
    rw [List.getElem?_eq_getElem hj]
    have h2 := h.below hW
    exact hold1_any ih _ x _ W' ((hp.2 _ (List.getElem_mem hj)).below h2.g) (hx.keeps W' h2.g) hs h2.i))
  generalize anyI (fun j => match p.args[j]? with | some q => holdsX n q x | none => false) p.args.length = r at *
  have q0 : (p.t.op == 0) = false := by rw [ho]; rfl
  have q1 : (p.t.op == 1) = false := by rw [ho]; rfl
  have q2 : (p.t.op == 2) = true := by rw [ho]; rfl
  have q3 : (p.t.op == 3) = false := by rw [ho]; rfl
  have q4 : (p.t.op == 4) = false := by rw [ho]; rfl
  clear ho
  unfold holdW at hS
  generalize hcx : Value.agg x.cells.toArray = vx at *
  unfold PredD.cells at hS ⊢
  have HS := Lib.hid hS
  clear hS hp hx
  go_enter Tryz.func59, Tryz.ntmps59
  go_wp2_with (first
    | (go_at_call 75; (with_reducible refine (hc.out _ HS.out).mono ?_); rintro e w' ⟨rfl, hg⟩; have hg := Lib.hid hg))
  go_ret
  exact ⟨by rw [hv.out]; rfl, (HS.out.below hg.out).g⟩
end Go.Proofs.YtnddlpfmagdbfaaGreatDoor
/- Contract: does a span satisfy a predicate? The rest. -/
namespace Go.Proofs.YtnddlpfmagdbfaaGreatDoor
open Go Go.Proofs Go.RowKit
set_option linter.unusedVariables false
set_option linter.unusedSimpArgs false
set_option maxHeartbeats 4000000 in
set_option maxRecDepth 20000 in
theorem holds_has {n : Nat} (p : PredD) (x : SpanD) (w : World) (hp : PredOK (n + 1) w p) (hx : x.Held w) (hs : x.Str) (ho : p.t.op = 4) :
    Calls Tryz.prog 59 #[.agg p.cells.toArray, .iface 118 (.agg x.cells.toArray)] w fun e w' => e = .returned (.bool (holdsX (n + 1) p x)) ∧ Below w.heap.size w w' := by
  have hS := HoldW.start p x w
  have hv : Hid (holdsX (n + 1) p x = (valX x ⟨#[97, 116, 116, 114]⟩ p.t.key).2) := Lib.hid (by rw [holdsX, if_neg (by omega), if_neg (by omega), if_neg (by omega), if_neg (by omega), if_pos ho])
  have hc := Lib.hid (fun W (h : HoldW p x w W) => val_any x ⟨#[97, 116, 116, 114]⟩ p.t.key W (hx.keeps W h.g) hs.na)
  generalize valX x ⟨#[97, 116, 116, 114]⟩ p.t.key = v at *
  obtain ⟨v, b⟩ := v
  obtain ⟨k, t, m⟩ := v
  have q0 : (p.t.op == 0) = false := by rw [ho]; rfl
  have q1 : (p.t.op == 1) = false := by rw [ho]; rfl
  have q2 : (p.t.op == 2) = false := by rw [ho]; rfl
  have q3 : (p.t.op == 3) = false := by rw [ho]; rfl
  have q4 : (p.t.op == 4) = true := by rw [ho]; rfl
  clear ho
  unfold holdW at hS
  generalize hcx : Value.agg x.cells.toArray = vx at *
  unfold PredD.cells at hS ⊢
  have HS := Lib.hid hS
  clear hS hp hx hs
  go_enter Tryz.func59, Tryz.ntmps59
  go_wp2_with (first
    | (go_at_call 133; (with_reducible refine (hc.out _ HS.out).mono ?_); unfold valV; rintro e w' ⟨rfl, hg⟩; have hg := Lib.hid (HS.out.below hg).g; clear HS))
  go_ret
  have h2 := hg.out
  have h3 := h2.size
  exact ⟨by rw [hv.out]; rfl, by go_grown⟩
set_option maxHeartbeats 4000000 in
set_option maxRecDepth 20000 in
theorem holds_test {n : Nat} (p : PredD) (x : SpanD) (w : World) (hp : PredOK (n + 1) w p) (hx : x.Held w) (hs : x.Str) (h0 : p.t.op ≠ 0) (h1 : p.t.op ≠ 1) (h2 : p.t.op ≠ 2) (h3 : p.t.op ≠ 3) (h4 : p.t.op ≠ 4) :
    Calls Tryz.prog 59 #[.agg p.cells.toArray, .iface 118 (.agg x.cells.toArray)] w fun e w' => e = .returned (.bool (holdsX (n + 1) p x)) ∧ Below w.heap.size w w' := by
  have hS := HoldW.start p x w
  have hv : Hid (holdsX (n + 1) p x = ((valX x p.t.field p.t.key).2 && satX p.t (valX x p.t.field p.t.key).1)) := Lib.hid (by rw [holdsX, if_neg h0, if_neg h1, if_neg h2, if_neg h3, if_neg h4])
  have hc := Lib.hid (fun W (h : HoldW p x w W) => val_any x p.t.field p.t.key W (hx.keeps W h.g) hs.na)
  have hz := val_size hs p.t.field p.t.key
  generalize valX x p.t.field p.t.key = v at *
  obtain ⟨v, b⟩ := v
  obtain ⟨k, t, m⟩ := v
  have hsat := Lib.hid (fun W => sat_any p.t p.A p.args.length p.c k t m W hz hp.1.2.2.1)
  clear hz
  generalize hss : satX p.t (k, t, m) = sv at *
  have q0 : (p.t.op == 0) = false := by rw [beq_eq_false_iff_ne]; exact h0
  have q1 : (p.t.op == 1) = false := by rw [beq_eq_false_iff_ne]; exact h1
  have q2 : (p.t.op == 2) = false := by rw [beq_eq_false_iff_ne]; exact h2
  have q3 : (p.t.op == 3) = false := by rw [beq_eq_false_iff_ne]; exact h3
  have q4 : (p.t.op == 4) = false := by rw [beq_eq_false_iff_ne]; exact h4
  clear h0 h1 h2 h3 h4
  unfold holdW at hS
  generalize hcx : Value.agg x.cells.toArray = vx at *
  unfold PredD.cells at hS ⊢
  have HS := Lib.hid hS
  clear hS hp hx hs
  cases b
  · clear hsat
    go_enter Tryz.func59, Tryz.ntmps59
    go_wp2_with (first
      | (go_at_call 133; (with_reducible refine (hc.out _ HS.out).mono ?_); unfold valV; rintro e w' ⟨rfl, hg⟩; have hg := Lib.hid (HS.out.below hg); clear HS))
    go_ret
    have h2 := hg.out.g
    have h3 := h2.size
    exact ⟨by rw [hv.out]; rfl, by go_grown⟩
  · go_enter Tryz.func59, Tryz.ntmps59
    go_wp2_with (first
      | (go_at_call 133; (with_reducible refine (hc.out _ HS.out).mono ?_); unfold valV; rintro e w1 ⟨rfl, hg⟩; have hP := (Grew.alloc w1 (.cells #[.int .i64 k, .string t, .int .i64 m] 31)).blk (blk_keep hg HS.out.p); have p0 : (w1.alloc (.cells #[.int .i64 k, .string t, .int .i64 m] 31)).cell? ⟨w.heap.size, 0, none⟩ = some (.int .i64 p.t.op) := cell_blk hP 0 rfl; have p1 : (w1.alloc (.cells #[.int .i64 k, .string t, .int .i64 m] 31)).cell? ⟨w.heap.size, 1, none⟩ = some (.string p.t.field) := cell_blk hP 1 rfl; have p2 : (w1.alloc (.cells #[.int .i64 k, .string t, .int .i64 m] 31)).cell? ⟨w.heap.size, 2, none⟩ = some (.string p.t.key) := cell_blk hP 2 rfl; have p3 : (w1.alloc (.cells #[.int .i64 k, .string t, .int .i64 m] 31)).cell? ⟨w.heap.size, 3, none⟩ = some (.int .i64 p.t.kind) := cell_blk hP 3 rfl; have p4 : (w1.alloc (.cells #[.int .i64 k, .string t, .int .i64 m] 31)).cell? ⟨w.heap.size, 4, none⟩ = some (.string p.t.text) := cell_blk hP 4 rfl; have p5 : (w1.alloc (.cells #[.int .i64 k, .string t, .int .i64 m] 31)).cell? ⟨w.heap.size, 5, none⟩ = some (.int .i64 p.t.num) := cell_blk hP 5 rfl; have p6 : (w1.alloc (.cells #[.int .i64 k, .string t, .int .i64 m] 31)).cell? ⟨w.heap.size, 6, none⟩ = some (.slice p.A p.args.length p.c) := cell_blk hP 6 rfl; have hP := Lib.hid hP; have hg := Lib.hid (HS.out.below hg); clear HS)
      | (go_at_call 77; (with_reducible refine (hsat.out _).mono ?_); rintro e w2 ⟨rfl, hg2⟩; have hg2 := Lib.hid hg2))
    go_ret
    have h2 := hg.out.g
    have h3 := h2.size
    have h4 := hg2.out
    have h5 := h4.size
    exact ⟨by rw [hv.out]; rfl, (h2.alloc h3 _).trans (h4.mono (by simp; omega))⟩
theorem HoldW.drew {p : PredD} {x : SpanD} {w W : World} (h : HoldW p x w W) : HoldW p x w W.drew := h.below (Grew.drew W).b
/-- A predicate in a row lies there cell by cell. -/
theorem predIs_range {W : World} {b o : Nat} {q : PredD} (h : PredIs W ⟨b, o, none⟩ q) : W.rangeAt b o q.cells := by
  intro j v hv
  obtain ⟨g0, g1, g2, g3, g4, g5, g6⟩ := h
  unfold PredD.cells at hv
  match j, hv with
  | 0, hv => cases hv; exact g0
  | 1, hv => cases hv; exact g1
  | 2, hv => cases hv; exact g2
  | 3, hv => cases hv; exact g3
  | 4, hv => cases hv; exact g4
  | 5, hv => cases hv; exact g5
  | 6, hv => cases hv; exact g6
theorem rowP : ∃ d, Tryz.prog.underlying 34 = some d ∧ d.isRow = true := ⟨_, Tryz.underlying34, rfl⟩
set_option maxHeartbeats 4000000 in
set_option maxRecDepth 20000 in
theorem holds_not {n : Nat} (ih : HoldsC n) (p : PredD) (x : SpanD) (w : World) (hp : PredOK (n + 1) w p) (hx : x.Held w) (hs : x.Str) (ho : p.t.op = 3) :
    Calls Tryz.prog 59 #[.agg p.cells.toArray, .iface 118 (.agg x.cells.toArray)] w fun e w' => e = .returned (.bool (holdsX (n + 1) p x)) ∧ Below w.heap.size w w' := by
  have hS := HoldW.start p x w
  have hl : 0 < p.args.length := hp.1.2.2.2 ho
  have hv : Hid (holdsX (n + 1) p x = !(holdsX n p.args[0] x)) := Lib.hid (by rw [holdsX, if_neg (by omega), if_neg (by omega), if_neg (by omega), if_pos ho, List.getElem?_eq_getElem hl])
  obtain ⟨ad, hA, hq⟩ := hp.1.1 0 hl
  have hc := Lib.hid (fun W (h : HoldW p x w W) => hold1_any ih p.args[0] x (w.heap.size + 1) W ((hp.2 _ (List.getElem_mem hl)).below h.g) (hx.keeps W h.g) hs h.i)
  have hQ := Lib.hid (fun W (h : HoldW p x w W) => hq.below h.g)
  clear hq
  have hF := Lib.hid (fun W (h : HoldW p x w W) => h.f)
  have hP : Hid (∀ W, HoldW p x w W → W.cell? ⟨w.heap.size, 6, none⟩ = some (.slice (some ad) p.args.length p.c)) := Lib.hid (fun W h => (cell_blk h.p 6 rfl).trans (by rw [← hA]; rfl))
  generalize p.args[0] = q at *
  generalize holdsX n q x = r at *
  have q0 : (p.t.op == 0) = false := by rw [ho]; rfl
  have q1 : (p.t.op == 1) = false := by rw [ho]; rfl
  have q2 : (p.t.op == 2) = false := by rw [ho]; rfl
  have q3 : (p.t.op == 3) = true := by rw [ho]; rfl
  have q4 : (p.t.op == 4) = false := by rw [ho]; rfl
  obtain ⟨b, o, g⟩ := ad
  have hg : g = none := by
    have h := (hQ.out _ hS).c0
    cases g with
    | none => rfl
    | some g =>
      simp [World.cell?, Addr.add] at h
      split at h <;> cases h
  subst hg
  clear ho
  simp only [Addr.add, Nat.zero_mul, Nat.add_zero] at hQ
  have hR := Lib.hid (fun W h => predIs_range (hQ.out W h))
  obtain ⟨d, hd, hd'⟩ := rowP
  unfold holdW at hS
  generalize hcx : Value.agg x.cells.toArray = vx at *
  have hcells : p.cells.toArray = #[.int .i64 p.t.op, .string p.t.field, .string p.t.key, .int .i64 p.t.kind, .string p.t.text, .int .i64 p.t.num, .slice (some ⟨b, o, none⟩) p.args.length p.c] := by rw [← hA]; rfl
  have HS := Lib.hid hS
  rw [hcells] at HS ⊢
  clear hS hp hx hs
  go_enter Tryz.func59, Tryz.ntmps59
  go_wp2_with fail
  refine wp_region_quiet (C := HoldW p x w) (by kernel_rfl) (by kernel_rfl) HS.out.drew ?_
  iterate 4
    refine wpQuiet_step (fun K hK => ?_)
    go_simp
    first
      | (refine ⟨_, fun _ _ => rfl, hK _ ?_⟩; clear hK K)
      | (refine ⟨_, fun W' hW' => (by (first | rw [hF.out W' hW'] | rw [hP.out W' hW']); exact ⟨rfl, rfl⟩), hK _ ?_⟩; clear hK K)
  refine wpQuiet_step (fun K hK => ?_)
  refine quiet_load (by rfl) 34 (.tmp 33) rfl b _ rfl q.cells d (fun W hW' => hR.out W hW') hd hd' (by kernel_rfl) (hK _ ?_)
  clear hK K
  iterate 3
    refine wpQuiet_step (fun K hK => ?_)
    go_simp
    first
      | (refine ⟨_, fun _ _ => rfl, hK _ ?_⟩; clear hK K)
      | (refine ⟨_, fun W' hW' => (hc.out W' hW').mono (fun e w' h => ⟨h.1, hW'.below h.2⟩), hK _ ?_⟩; clear hK K)
  refine wpQuiet_nil ?_
  intro W hW
  have HW := Lib.hid hW.g
  clear hW HS hF hP hQ hR hc
  go_wp2_with fail
  go_ret
  exact ⟨by rw [hv.out]; rfl, HW.out⟩
theorem holds_any : ∀ n : Nat, HoldsC n
  | 0 => fun p x w hp _ _ => False.elim hp
  | n + 1 => fun p x w hp hx hs => by
    have ih := holds_any n
    by_cases h0 : p.t.op = 0
    · exact holds_true ih p x w hp hx hs h0
    by_cases h1 : p.t.op = 1
    · exact holds_and ih p x w hp hx hs h1
    by_cases h2 : p.t.op = 2
    · exact holds_or ih p x w hp hx hs h2
    by_cases h3 : p.t.op = 3
    · exact holds_not ih p x w hp hx hs h3
    by_cases h4 : p.t.op = 4
    · exact holds_has p x w hp hx hs h4
    exact holds_test p x w hp hx hs h0 h1 h2 h3 h4
/-- span.Holds. -/
theorem spanHolds_any (n : Nat) (p : PredD) (x : SpanD) (w : World) (hp : PredOK n w p) (hx : x.Held w) (hs : x.Str) :
    Calls Tryz.prog 32 #[.agg p.cells.toArray, .agg x.cells.toArray] w fun e w' => e = .returned (.bool (holdsX n p x)) ∧ Below w.heap.size w w' := by
  have hB := Lib.hid (((Below.refl _ w).alloc (Nat.le_refl _) (.cells p.cells.toArray 34)).alloc (by simp) (.cells x.cells.toArray 73))
  have hc := Lib.hid (fun W h => holds_any n p x W (hp.below h) (hx.keeps W h) hs)
  unfold PredD.cells SpanD.cells at hc hB ⊢
  clear hp hx hs
  go_enter Tryz.func32, Tryz.ntmps32
  go_wp2_with (first
    | (go_at_call 59; (with_reducible refine (hc.out _ hB.out).mono ?_); rintro e w' ⟨rfl, hg⟩; have hg := Lib.hid hg))
  go_ret
  exact ⟨rfl, hB.out.trans (hg.out.mono hB.out.size)⟩
end Go.Proofs.YtnddlpfmagdbfaaGreatDoor
/- Contracts: the exponent that a policy gives to a trace. -/
namespace Go.Proofs.YtnddlpfmagdbfaaGreatDoor
open Go Go.Proofs Go.RowKit
set_option linter.unusedVariables false
set_option linter.unusedSimpArgs false
/-- A rule. -/
structure RuleD where
  p : PredD
  e : Int
def RuleD.cells (q : RuleD) : List Value := [.int .i64 q.p.t.op, .string q.p.t.field, .string q.p.t.key, .int .i64 q.p.t.kind, .string q.p.t.text, .int .i64 q.p.t.num, .slice q.p.A q.p.args.length q.p.c, .int .i64 q.e]
def RulesAt (W : World) (a : Option Addr) (L : List RuleD) : Prop := ∀ j (h : j < L.length), ∃ ad, a = some ad ∧ PredIs W (ad.add (j * 8)) L[j].p ∧ W.cell? ⟨(ad.add (j * 8)).block, (ad.add (j * 8)).off + 7, none⟩ = some (.int .i64 L[j].e)
theorem RulesAt.below {W W' : World} {a : Option Addr} {L : List RuleD} (h : RulesAt W a L) (k : Below W.heap.size W W') : RulesAt W' a L := fun j hj =>
  let ⟨ad, h1, h2, h3⟩ := h j hj
  ⟨ad, h1, h2.below k, (k.cell (World.block_lt_of_cell? W _ h3)).trans h3⟩
theorem holdsX_bare (x : SpanD) : ∀ (n : Nat) (p : PredD), holdsX n p x.bare = holdsX n p x
  | 0, _ => rfl
  | n + 1, p => by
    unfold holdsX
    have h : ∀ q, holdsX n q x.bare = holdsX n q x := holdsX_bare x n
    simp only [h]
    rfl
set_option maxHeartbeats 2000000 in
theorem gv11_any (n : Nat) (q : RuleD) (x : SpanD) (b : Nat) (w : World) (hq : PredOK n w q.p) (hx : x.Held w) (hs : x.Str) (hb : w.heap[b]? = some (.cells q.cells.toArray 36 (0, 0))) :
    Calls Tryz.prog 47 #[.agg x.cells.toArray, .pointer (some ⟨b, 0, none⟩)] w fun e w' => e = .returned (.bool (holdsX n q.p x)) ∧ Below w.heap.size w w' := by
  have hB := Lib.hid ((Below.refl _ w).alloc (Nat.le_refl _) (.cells x.cells.toArray 73))
  have hc := Lib.hid (fun W h => spanHolds_any n q.p x W (hq.below h) (hx.keeps W h) hs)
  have hb' : (w.alloc (.cells x.cells.toArray 73)).heap[b]? = _ := (Grew.alloc _ _).blk hb
  have c0 : (w.alloc (.cells x.cells.toArray 73)).cell? ⟨b, 0, none⟩ = some (.int .i64 q.p.t.op) := cell_blk hb' 0 rfl
  have c1 : (w.alloc (.cells x.cells.toArray 73)).cell? ⟨b, 1, none⟩ = some (.string q.p.t.field) := cell_blk hb' 1 rfl
  have c2 : (w.alloc (.cells x.cells.toArray 73)).cell? ⟨b, 2, none⟩ = some (.string q.p.t.key) := cell_blk hb' 2 rfl
  have c3 : (w.alloc (.cells x.cells.toArray 73)).cell? ⟨b, 3, none⟩ = some (.int .i64 q.p.t.kind) := cell_blk hb' 3 rfl
  have c4 : (w.alloc (.cells x.cells.toArray 73)).cell? ⟨b, 4, none⟩ = some (.string q.p.t.text) := cell_blk hb' 4 rfl
  have c5 : (w.alloc (.cells x.cells.toArray 73)).cell? ⟨b, 5, none⟩ = some (.int .i64 q.p.t.num) := cell_blk hb' 5 rfl
  have c6 : (w.alloc (.cells x.cells.toArray 73)).cell? ⟨b, 6, none⟩ = some (.slice q.p.A q.p.args.length q.p.c) := cell_blk hb' 6 rfl
  clear hb hb' hq hx hs
  unfold PredD.cells at hc
  unfold SpanD.cells at hc hB c0 c1 c2 c3 c4 c5 c6 ⊢
  go_enter Tryz.func47, Tryz.ntmps47
  go_wp2_with (first
    | (go_at_call 32; (with_reducible refine (hc.out _ hB.out).mono ?_); rintro e w' ⟨rfl, hg⟩; have hg := Lib.hid hg))
  go_ret
  exact ⟨rfl, hB.out.trans (hg.out.mono hB.out.size)⟩
set_option maxHeartbeats 4000000 in
theorem indexX_any (a : Option Addr) (L : List SpanD) (c n : Nat) (hn : n = L.length) (P : Option Addr) (r : Nat → Bool) (w : World) (h : SpansIn w a L) (hl : L.length ≤ 1000000)
    (hk : ∀ j (h : j < L.length) W, Below w.heap.size w W → Calls Tryz.prog 47 #[.agg L[j].cells.toArray, .pointer P] W fun e w' => e = .returned (.bool (r j)) ∧ Below W.heap.size W w') :
    Calls Tryz.prog 69 #[.slice a n c, .func (.func 47) #[] #[.pointer P]] w fun e w' => (∃ i : Int, e = .returned (.int .i64 i) ∧ decide (0 ≤ i) = anyI r L.length) ∧ Below w.heap.size w w' := by
  subst hn
  have HR := Lib.hid h
  have HK := Lib.hid hk
  clear h hk
  go_enter Tryz.func69, Tryz.ntmps69
  go_wp2_with fail
  go_loopw [5, 8] (fun t i wr => ∃ j : Nat, j ≤ L.length ∧ i = .int .i64 j ∧ Hid (∀ m, m < j → r m = false) ∧ Hid (Below w.heap.size w wr)) (fun _ i _ => L.length - (intOf i).toNat)
  case atStart => exact ⟨0, by omega, rfl, Lib.hid (fun m hm => by omega), Lib.hid (Below.refl _ _)⟩
  case round =>
    obtain ⟨j, hj, rfl, hG, hW⟩ := hrel
    by_cases hlt : j < L.length
    · have hlt2 : decide (j < L.length) = true := decide_eq_true hlt
      obtain ⟨b, o, rfl, hr⟩ := (HR.out.below hW.out) j hlt
      have hc := Lib.hid (HK.out j hlt wr hW.out)
      generalize L[j] = x at *
      have f0 : wr.cell? ⟨b, o + j * 14, none⟩ = some (.int .i64 x.trace) := hr 0 _ rfl
      have f1 : wr.cell? ⟨b, o + j * 14 + 1, none⟩ = some (.int .i64 x.id) := hr 1 _ rfl
      have f2 : wr.cell? ⟨b, o + j * 14 + 2, none⟩ = some (.int .i64 x.parent) := hr 2 _ rfl
      have f3 : wr.cell? ⟨b, o + j * 14 + 3, none⟩ = some (.int .i64 x.rev) := hr 3 _ rfl
      have f4 : wr.cell? ⟨b, o + j * 14 + 4, none⟩ = some (.int .i64 x.clock) := hr 4 _ rfl
      have f5 : wr.cell? ⟨b, o + j * 14 + 5, none⟩ = some (.int .i64 x.kind) := hr 5 _ rfl
      have f6 : wr.cell? ⟨b, o + j * 14 + 6, none⟩ = some (.string x.svc) := hr 6 _ rfl
      have f7 : wr.cell? ⟨b, o + j * 14 + 7, none⟩ = some (.string x.ver) := hr 7 _ rfl
      have f8 : wr.cell? ⟨b, o + j * 14 + 8, none⟩ = some (.string x.op) := hr 8 _ rfl
      have f9 : wr.cell? ⟨b, o + j * 14 + 9, none⟩ = some (.int .i64 x.st) := hr 9 _ rfl
      have f10 : wr.cell? ⟨b, o + j * 14 + 10, none⟩ = some (.int .i64 x.en) := hr 10 _ rfl
      have f11 : wr.cell? ⟨b, o + j * 14 + 11, none⟩ = some (.bool x.err) := hr 11 _ rfl
      have f12 : wr.cell? ⟨b, o + j * 14 + 12, none⟩ = some (.slice x.aA x.attrs.length x.aC) := hr 12 _ rfl
      have f13 : wr.cell? ⟨b, o + j * 14 + 13, none⟩ = some (.slice x.lA x.links.length x.lC) := hr 13 _ rfl
      clear hr
      unfold SpanD.cells at hc
      cases hr : r j
      · have hn : Hid (∀ m, m < j + 1 → r m = false) := Lib.hid (fun m hm => by
          by_cases hmj : m = j
          · subst hmj; exact hr
          · exact hG.out m (by omega))
        rw [hr] at hc
        clear hr
        go_wp2_with (first
          | (go_at_call 47; (with_reducible refine hc.out.mono ?_); rintro e w' ⟨rfl, hb⟩; have hb := Lib.hid hb))
        exact ⟨⟨j + 1, by omega, by go_num, hn, Lib.hid (hW.out.trans (hb.out.mono hW.out.size))⟩, by simp [intOf]; omega⟩
      · have hn := Lib.hid (anyI_true hlt hr)
        rw [hr] at hc
        clear hr
        go_wp2_with (first
          | (go_at_call 47; (with_reducible refine hc.out.mono ?_); rintro e w' ⟨rfl, hb⟩; have hb := Lib.hid hb))
        go_ret
        exact ⟨⟨_, rfl, by rw [hn.out]; simp⟩, hW.out.trans (hb.out.mono hW.out.size)⟩
    · obtain rfl : j = L.length := by omega
      have hlt2 : decide (L.length < L.length) = false := decide_eq_false hlt
      have hn := Lib.hid (anyI_false hG.out)
      go_wp2_with fail
      go_ret
      exact ⟨⟨_, rfl, by rw [hn.out]; simp⟩, hW.out⟩
theorem containsX_any (a : Option Addr) (L : List SpanD) (c n : Nat) (hn : n = L.length) (P : Option Addr) (r : Nat → Bool) (w : World) (h : SpansIn w a L) (hl : L.length ≤ 1000000)
    (hk : ∀ j (h : j < L.length) W, Below w.heap.size w W → Calls Tryz.prog 47 #[.agg L[j].cells.toArray, .pointer P] W fun e w' => e = .returned (.bool (r j)) ∧ Below W.heap.size W w') :
    Calls Tryz.prog 46 #[.slice a n c, .func (.func 47) #[] #[.pointer P]] w fun e w' => e = .returned (.bool (anyI r L.length)) ∧ Below w.heap.size w w' := by
  have hi := Lib.hid (indexX_any a L c n hn P r w h hl hk)
  clear hn h hk
  go_enter Tryz.func46, Tryz.ntmps46
  go_wp2_with (first
    | (go_at_call 69; (with_reducible refine hi.out.mono ?_); rintro e w' ⟨⟨i, rfl, hr⟩, hb⟩; have hr := Lib.hid hr; have hb := Lib.hid hb))
  go_ret
  exact ⟨by rw [← hr.out]; rfl, hb.out⟩
def atB {α : Type} (f : α → Bool) (M : List α) (j : Nat) : Bool := match M[j]? with | some y => f y | none => false
theorem atB_eq {α : Type} {f : α → Bool} {M : List α} {j : Nat} (h : j < M.length) : atB f M j = f M[j] := by unfold atB; rw [List.getElem?_eq_getElem h]
theorem anyI_list {α : Type} (f : α → Bool) (M : List α) : anyI (atB f M) M.length = M.any f := by
  unfold anyI
  rw [Bool.eq_iff_iff, List.any_eq_true, List.any_eq_true]
  constructor
  · rintro ⟨j, hj, h⟩
    have hj := List.mem_range.1 hj
    rw [atB_eq hj] at h
    exact ⟨_, List.getElem_mem hj, h⟩
  · rintro ⟨y, hy, h⟩
    obtain ⟨j, hj, rfl⟩ := List.mem_iff_getElem.1 hy
    exact ⟨j, List.mem_range.2 hj, by rw [atB_eq hj]; exact h⟩
set_option maxHeartbeats 4000000 in
/-- Does a rule apply to the winners? -/
theorem gv1_any (n : Nat) (q : RuleD) (A : Option Addr) (c : Nat) (M : List SpanD) (b : Nat) (w : World) (hq : PredOK n w q.p) (hI : SpansIn w A M) (hH : ∀ x ∈ M, x.Held w) (hs : ∀ x ∈ M, x.Str) (hl : M.length ≤ 1000000) (hb : w.cell? ⟨b, 0, none⟩ = some (.slice A M.length c)) :
    Calls Tryz.prog 45 #[.agg q.cells.toArray, .pointer (some ⟨b, 0, none⟩)] w fun e w' => e = .returned (.bool (M.any (holdsX n q.p))) ∧ Below w.heap.size w w' := by
  have hb' := (Grew.alloc w (.cells q.cells.toArray 36)).cell hb
  have hB := Lib.hid ((Below.refl _ w).alloc (Nat.le_refl _) (.cells q.cells.toArray 36))
  have hR := Lib.hid (blk_new w q.cells.toArray 36)
  have hc := Lib.hid (containsX_any A M c M.length rfl (some ⟨w.heap.size, 0, none⟩) (atB (holdsX n q.p) M) (w.alloc (.cells q.cells.toArray 36)) (hI.below hB.out) hl (fun j hj W hW => by
    rw [atB_eq hj]
    have hm := List.getElem_mem hj
    exact gv11_any n q M[j] w.heap.size W ((hq.below hB.out).below hW) ((((hH _ hm).keeps) _ hB.out).keeps W hW) (hs _ hm) (blk_keep hW hR.out)))
  rw [anyI_list] at hc
  clear hb hq hI hH hs hl hR
  unfold RuleD.cells at hc hB hb' ⊢
  go_enter Tryz.func45, Tryz.ntmps45
  go_wp2_with (first
    | (go_at_call 46; (with_reducible refine hc.out.mono ?_); rintro e w' ⟨rfl, hg⟩; have hg := Lib.hid hg))
  go_ret
  exact ⟨rfl, hB.out.trans (hg.out.mono hB.out.size)⟩
end Go.Proofs.YtnddlpfmagdbfaaGreatDoor
/- Slices of structs, opened. -/
namespace Go.Proofs.YtnddlpfmagdbfaaGreatDoor
open Go Go.Ev Go.Proofs Go.RowKit Go.ChangeShapes Go.WideShapes Go.Deep
set_option linter.unusedVariables false
set_option linter.unusedSimpArgs false
theorem list_2 {α : Type} : ∀ {l : List α}, l.length = 2 → ∃ a0 a1, l = [a0, a1]
  | [a0, a1], _ => ⟨a0, a1, rfl⟩
theorem list_3 {α : Type} : ∀ {l : List α}, l.length = 3 → ∃ a0 a1 a2, l = [a0, a1, a2]
  | [a0, a1, a2], _ => ⟨a0, a1, a2, rfl⟩
theorem list_4 {α : Type} : ∀ {l : List α}, l.length = 4 → ∃ a0 a1 a2 a3, l = [a0, a1, a2, a3]
  | [a0, a1, a2, a3], _ => ⟨a0, a1, a2, a3, rfl⟩
theorem list_5 {α : Type} : ∀ {l : List α}, l.length = 5 → ∃ a0 a1 a2 a3 a4, l = [a0, a1, a2, a3, a4]
  | [a0, a1, a2, a3, a4], _ => ⟨a0, a1, a2, a3, a4, rfl⟩
theorem list_7 {α : Type} : ∀ {l : List α}, l.length = 7 → ∃ a0 a1 a2 a3 a4 a5 a6, l = [a0, a1, a2, a3, a4, a5, a6]
  | [a0, a1, a2, a3, a4, a5, a6], _ => ⟨a0, a1, a2, a3, a4, a5, a6, rfl⟩
theorem list_8 {α : Type} : ∀ {l : List α}, l.length = 8 → ∃ a0 a1 a2 a3 a4 a5 a6 a7, l = [a0, a1, a2, a3, a4, a5, a6, a7]
  | [a0, a1, a2, a3, a4, a5, a6, a7], _ => ⟨a0, a1, a2, a3, a4, a5, a6, a7, rfl⟩
theorem list_14 {α : Type} : ∀ {l : List α}, l.length = 14 → ∃ a0 a1 a2 a3 a4 a5 a6 a7 a8 a9 a10 a11 a12 a13, l = [a0, a1, a2, a3, a4, a5, a6, a7, a8, a9, a10, a11, a12, a13]
  | [a0, a1, a2, a3, a4, a5, a6, a7, a8, a9, a10, a11, a12, a13], _ => ⟨a0, a1, a2, a3, a4, a5, a6, a7, a8, a9, a10, a11, a12, a13, rfl⟩
theorem max63 {n : Nat} (h : n ≤ maxLen) : n ≤ 9223372036854775807 := h
section
variable {H : Type} {enc : TypeId × Value → H} {w : World} {base : Nat} {spare : Nat → Bool} {held : Bool}
/-- A slice of structs, opened: each element by its cells. -/
theorem open_row {α : Type} [Inhabited α] {t e : TypeId} {k : Nat} (hk : 0 < k) (ht : Tryz.prog.underlying t = some (.slice e)) (hc : Tryz.prog.cellsOf e = k) (cells : α → List Value) (good : α → Prop) (hl : ∀ x, (cells x).length = k)
    (hopen : ∀ {fuel : Nat} {cs : List Value} {x : DataW H × List MemPlace}, DataW.trod enc Tryz.prog w base spare held fuel e cs = some x → ∃ r, cs = cells r ∧ good r)
    {fuel : Nat} {v : Value} {x : DataW H × List MemPlace} (h : DataW.trod enc Tryz.prog w base spare held fuel t [v] = some x) :
    ∃ (a : Option Addr) (xs : List α) (c : Nat), v = .slice a xs.length c ∧ xs.length ≤ maxLen ∧ (∀ x ∈ xs, good x) ∧ (a = none → xs = [] ∧ c = 0) ∧ (∀ j (hj : j < xs.length), ∃ b o, a = some ⟨b, o, none⟩ ∧ w.rangeAt b (o + j * k) (cells xs[j])) := by
  rcases open_slice ht h with ⟨e, _⟩ | ⟨a, len, cap, m, n, D, Pl, e, _, hlc, hcm, hm, _, hel⟩
  · simp at e
    exact ⟨none, [], 0, by rw [e]; rfl, Nat.zero_le _, fun x hx => absurd hx List.not_mem_nil, fun _ => ⟨rfl, rfl⟩, fun j hj => absurd hj (Nat.not_lt_zero _)⟩
  · simp at e
    have hlm : len ≤ m := by rw [hm]; split <;> omega
    rw [hc] at hel
    have each : ∀ i, i < len → ∃ r : α, w.cells? base (a.add (i * k)) k = some (cells r) ∧ good r := by
      intro i hi
      obtain ⟨cs, h1, h2⟩ := hel i (by omega)
      obtain ⟨r, rfl, hr⟩ := hopen h2
      exact ⟨r, h1, hr⟩
    obtain ⟨f, hf⟩ := choose_lt each
    have hsp : 0 < len → a.spot = none := by
      intro hj
      obtain ⟨_, _, hc⟩ := World.cells?_some (hf 0 hj).1
      have h0 := hc 0 hk
      rw [Deep.add_add] at h0
      have h0 : w.cell? a = some ((cells (f 0))[0]'(by rw [hl]; exact hk)) := by
        have e1 : a.add (0 * k + 0) = a := by obtain ⟨b, o, s⟩ := a; simp [Addr.add]
        rw [e1] at h0
        rw [h0]
        exact List.getElem?_eq_getElem _
      exact World.cell?_spot h0
    refine ⟨some a, (List.range len).map f, cap, by rw [e]; simp, by simp; omega, fun x hx => ?_, (fun h => by cases h), fun j hj => ?_⟩
    · obtain ⟨i, hi, rfl⟩ := List.mem_map.1 hx
      exact (hf i (List.mem_range.1 hi)).2
    · simp at hj
      obtain ⟨b, o, s⟩ := a
      have hs := hsp (by omega)
      simp only at hs
      subst hs
      refine ⟨b, o, rfl, fun i v hv => ?_⟩
      simp only [List.getElem_map, List.getElem_range] at hv
      obtain ⟨_, _, hc⟩ := World.cells?_some (hf j hj).1
      have hik : i < k := by have := (List.getElem?_eq_some_iff.1 hv).1; rw [hl] at this; exact this
      have h1 := hc i hik
      rw [Deep.add_add, Addr.add_mid] at h1
      rw [Nat.add_assoc]
      rw [h1]
      exact hv
theorem rules_of {W : World} {a : Option Addr} {L : List RuleD} (h : ∀ j (hj : j < L.length), ∃ b o, a = some ⟨b, o, none⟩ ∧ W.rangeAt b (o + j * 8) L[j].cells) : RulesAt W a L := fun j hj => by
  obtain ⟨b, o, h1, h2⟩ := h j hj
  refine ⟨_, h1, ?_⟩
  rw [Addr.add_mid]
  exact ⟨⟨h2 0 _ rfl, h2 1 _ rfl, h2 2 _ rfl, h2 3 _ rfl, h2 4 _ rfl, h2 5 _ rfl, h2 6 _ rfl⟩, h2 7 _ rfl⟩
end
end Go.Proofs.YtnddlpfmagdbfaaGreatDoor
/- A call that the evaluator comes through at plain arguments: its value, and where its blocks lie. -/
namespace Go.Proofs.YtnddlpfmagdbfaaGreatDoor
open Go Go.Ev Go.Proofs Go.RowKit
set_option linter.unusedVariables false
theorem deep_at {P : Program} {ext : Ext} {n : Nat} {f : FuncId} {args : List Value} {v : Value} {h' : Hp} (hc : CallOK P (evCall P ext n)) (ha : ∀ v ∈ args, plain v = true)
    (hr : evCall P ext n (.func f) args ⟨mkT (blksOf (fun _ => 0) [] ++ []), 64, 64⟩ = some (v, h')) (w : World) :
    Calls P f args.toArray w fun en w' => ∃ e', en = .returned (conc e' v) ∧ (∀ b c t, h'.get b = some (.cells c t false) → w.heap.size ≤ e'.phi b ∧ w'.heap[e'.phi b]? = some (.cells (c.map (conc e')).toArray t (0, 0))) ∧ Below w.heap.size w w' := by
  have hl : laidG w (fun _ => 0) [] := fun x hx => by cases hx
  have r0 : Rel P ⟨mkT (blksOf (fun _ => 0) [] ++ []), 64, 64⟩ env0 w := laidG_rel rfl hl (fun _ _ => rfl) (Nat.le_refl _)
  refine Calls.mono ((hc.func _ _ _ _ _ hr).2 env0 w args r0 ⟨fun v hv => (plain_ok (ha v hv) _ env0).under, (List.map_id' args).symm.trans (List.map_congr_left fun v hv => (plain_ok (ha v hv) 0 env0).eq)⟩) ?_
  rintro en w' ⟨e', v', rfl, r, s, hv'⟩
  refine ⟨e', by rw [hv'.eq], fun b c t hb => ⟨?_, ?_⟩, laidG_below (ty := fun _ => 0) (g := []) rfl hl (fun _ _ => rfl) r s⟩
  · rcases s.img b _ hb with ⟨c', y, hy, _⟩ | h
    · have hy2 : (mkT (blksOf (fun _ => 0) [] ++ [])).get c' = some y := hy
      have := mkT_mem hy2
      simp [blksOf] at this
    · exact h
  · obtain ⟨cs, h1, h2⟩ := (r.lies b _ hb).2
    have h3 : RC h'.next e' c cs.toList := h2
    rw [h1, ← h3.rl.2]
/-- Are two values of one cell the same? -/
def sameV : Value → Value → Bool
  | .int k a, .int l b => decide (k = l) && decide (a = b)
  | .string s, .string t => decide (s = t)
  | .bool a, .bool b => decide (a = b)
  | .slice none n c, .slice none m d => decide (n = m) && decide (c = d)
  | _, _ => false
theorem sameV_eq : ∀ {a b : Value}, sameV a b = true → a = b
  | .int k a, .int l b, h => by simp [sameV] at h; rw [h.1, h.2]
  | .string s, .string t, h => by simp [sameV] at h; rw [h]
  | .bool a, .bool b, h => by simp [sameV] at h; rw [h]
  | .slice none n c, .slice none m d, h => by simp [sameV] at h; rw [h.1, h.2]
def sameL : List Value → List Value → Bool
  | [], [] => true
  | a :: l, b :: m => sameV a b && sameL l m
  | _, _ => false
theorem sameL_eq : ∀ {l m : List Value}, sameL l m = true → l = m
  | [], [], _ => rfl
  | a :: l, b :: m, h => by
    simp only [sameL, Bool.and_eq_true] at h
    rw [sameV_eq h.1, sameL_eq h.2]
theorem sameV_conc {a b : Value} (h : sameV a b = true) (e : Env) : conc e a = a := by
  match a, b, h with
  | .int _ _, .int _ _, _ => simp [conc]
  | .string _, .string _, _ => simp [conc]
  | .bool _, .bool _, _ => simp [conc]
  | .slice none _ _, .slice none _ _, _ => simp [conc, cCap]
theorem sameL_conc : ∀ {l m : List Value}, sameL l m = true → ∀ e, l.map (conc e) = l
  | [], [], _, _ => rfl
  | a :: l, b :: m, h, e => by
    simp only [sameL, Bool.and_eq_true] at h
    rw [List.map_cons, sameV_conc h.1, sameL_conc h.2]
end Go.Proofs.YtnddlpfmagdbfaaGreatDoor
/- A region that draws its order, by one relation over what has come up; blocks that are known whole. -/
namespace Go.Proofs.YtnddlpfmagdbfaaGreatDoor
open Go Go.Proofs Go.RowKit
set_option linter.unusedVariables false
set_option linter.unusedSimpArgs false
/-- Has the operation come up? -/
def Listed (l : Array Bool) (k : Nat) : Prop := l.getD k false = true

theorem Listed.set {l : Array Bool} {i : Nat} (hi : i < l.size) : Listed (l.setIfInBounds i true) = fun k => Listed l k ∨ k = i := by
  funext k
  unfold Listed
  apply propext
  by_cases hk : i = k
  · subst hk
    simp [hi]
  · rw [getD_set_ne false hk]
    constructor
    · exact .inl
    · rintro (h | h)
      · exact h
      · exact absurd h.symm hk

theorem getD_tf {l : Array Bool} {i : Nat} (hi : i < l.size) : l.getD i true = l.getD i false := by
  simp [hi]

theorem count_set {l : Array Bool} {i : Nat} (hi : i < l.size) (hf : l.getD i false = false) : (l.setIfInBounds i true).toList.count false + 1 = l.toList.count false := by
  have hl : i < l.toList.length := by simpa using hi
  have hv : l.toList[i] = false := by
    rw [Array.getElem_toList]
    simpa [hi] using hf
  rw [Array.toList_setIfInBounds, List.count_set hl, hv]
  have : 0 < l.toList.count false := List.count_pos_iff.2 (by rw [← hv]; exact List.getElem_mem hl)
  have e1 : (if (false == false) = true then 1 else 0) = 1 := rfl
  have e2 : (if (true == false) = true then 1 else 0) = 0 := rfl
  rw [e1, e2]
  omega
/-- A region of which some operations have come up: whatever comes up next, the relation stays; at the end it gives what follows. -/
theorem wpAnyH_inv {P : Program} {md : Region.Mode} {ops : Array Oper} {Q : Exit → Act → World → Prop} {S : World → Prop} (I : (Nat → Prop) → Act → World → Prop)
    (hlex : ∀ i o, ops[i]? = some o → ∀ e ∈ o.after, Region.binds md e = true → e.on < i) (hS : ∀ L a w, I L a w → S w)
    (hstep : ∀ L a w i o, I L a w → ops[i]? = some o → ¬ L i → (∀ e ∈ o.after, Region.binds md e = true → L e.on) → wpOp P ops Q i (fun a' w' => I (fun j => L j ∨ j = i) a' w') a w)
    (hend : ∀ L a w, I L a w → (∀ i, i < ops.size → L i) → Q .normal a w) :
    ∀ (fuel : Nat) (l : Array Bool) (a : Act) (w : World), l.size = ops.size → l.toList.count false ≤ fuel → I (Listed l) a w → wpAnyH P md ops Q S fuel l a w := by
  have hall : ∀ (l : Array Bool), l.size = ops.size → Region.ready md ops l = [] → ∀ i, i < ops.size → Listed l i := by
    intro l hl hr i
    induction i using Nat.strongRecOn with
    | _ i ih =>
      intro hi
      by_cases h : Listed l i
      · exact h
      · exfalso
        have hm : i ∈ Region.ready md ops l := mem_ready.2 ⟨by rw [getD_tf (by omega)]; unfold Listed at h; simpa using h, ops[i], by simp [hi], fun e he hb => ih e.on (hlex i ops[i] (by simp [hi]) e he hb) (by have := hlex i ops[i] (by simp [hi]) e he hb; omega)⟩
        rw [hr] at hm
        cases hm
  intro fuel
  induction fuel with
  | zero =>
    intro l a w hl hc hI
    have hr : Region.ready md ops l = [] := by
      apply List.eq_nil_iff_forall_not_mem.2
      intro i hi
      obtain ⟨h1, o, ho, _⟩ := mem_ready.1 hi
      have hil : i < l.size := by
        have := (Array.getElem?_eq_some_iff.1 ho).1
        omega
      have := count_set hil (by rw [← getD_tf hil]; exact h1)
      omega
    exact ⟨hr, hend _ _ _ hI (hall l hl hr)⟩
  | succ fuel ih =>
    intro l a w hl hc hI
    refine ⟨fun hr => hend _ _ _ hI (hall l hl hr), fun i hi => ?_⟩
    obtain ⟨h1, o, ho, h2⟩ := mem_ready.1 hi
    have hil : i < l.size := by
      have := (Array.getElem?_eq_some_iff.1 ho).1
      omega
    have h3 : l.getD i false = false := by rw [← getD_tf hil]; exact h1
    have hcs := count_set hil h3
    refine wpOp_mono (fun a' w' hI' => ?_) (hstep (Listed l) a w i o hI ho (by unfold Listed; rw [h3]; simp) h2)
    rw [← Listed.set hil] at hI'
    exact ⟨hS _ _ _ hI', ih _ a' w' (by simpa using hl) (by omega) hI'⟩
/-- Each operation waits for elder ones alone. -/
def lexAfter (md : Region.Mode) (ops : Array Oper) : Bool := (List.range ops.size).all fun i => ((ops[i]?).map fun o : Oper => o.after.all fun e => !Region.binds md e || Nat.blt e.on i).getD true
theorem lexAfter_spec {md : Region.Mode} {ops : Array Oper} (h : lexAfter md ops = true) : ∀ i o, ops[i]? = some o → ∀ e ∈ o.after, Region.binds md e = true → e.on < i := by
  intro i o ho e he hb
  have hi : i < ops.size := (Array.getElem?_eq_some_iff.1 ho).1
  have h1 := List.all_eq_true.1 h i (List.mem_range.2 hi)
  rw [ho, Option.map_some, Option.getD_some, Array.all_eq_true_iff_forall_mem] at h1
  have h2 := h1 e he
  rw [hb] at h2
  simpa using h2
/-- The same, where R is what has not come up yet; the relation is told the state at the beginning. -/
theorem wpAnyH_rest {P : Program} {md : Region.Mode} {ops : Array Oper} {Q : Exit → Act → World → Prop} {S : World → Prop} {l0 : Array Bool} {a0 : Act} {w0 : World} {fuel : Nat} (R : List Nat) (I : Act → (Nat → Prop) → Act → World → Prop)
    (hlex : lexAfter md ops = true) (hsz : l0.size = ops.size) (hf : Nat.ble (l0.toList.count false) fuel = true) (hR : ((List.range ops.size).all fun i => l0.getD i false || R.contains i) = true) (hR2 : (R.all fun i => Nat.blt i ops.size && !l0.getD i false) = true)
    (h0 : ∀ L : Nat → Prop, (∀ i ∈ R, ¬ L i) → I a0 L a0 w0) (hS : ∀ L a w, I a0 L a w → S w)
    (hstep : ∀ i ∈ R, ∀ L a w o, I a0 L a w → ops[i]? = some o → ¬ L i → (∀ e ∈ o.after, Region.binds md e = true → e.on ∈ R → L e.on) → wpOp P ops Q i (fun a' w' => I a0 (fun j => L j ∨ j = i) a' w') a w)
    (hend : ∀ L a w, I a0 L a w → (∀ i ∈ R, L i) → Q .normal a w) : wpAnyH P md ops Q S fuel l0 a0 w0 := by
  have hin : ∀ i, i < ops.size → l0.getD i false = true ∨ i ∈ R := fun i hi => by
    have := List.all_eq_true.1 hR i (List.mem_range.2 hi)
    simpa using this
  refine wpAnyH_inv (fun L a w => (∀ i, i < ops.size → l0.getD i false = true → L i) ∧ I a0 L a w) (lexAfter_spec hlex) (fun L a w h => hS L a w h.2)
    (fun L a w i o h ho hn hd => ?_) (fun L a w h ha => hend L a w h.2 fun i hi => ha i ?_) fuel l0 a0 w0 hsz (by simpa using hf) ⟨fun i _ hi => hi, h0 _ fun i hi hl => ?_⟩
  · have hi : i < ops.size := (Array.getElem?_eq_some_iff.1 ho).1
    have hiR : i ∈ R := (hin i hi).resolve_left fun h1 => hn (h.1 i hi h1)
    exact wpOp_mono (fun a' w' h' => ⟨fun j hj h1 => .inl (h.1 j hj h1), h'⟩) (hstep i hiR L a w o h.2 ho hn fun e he hb _ => hd e he hb)
  · have := List.all_eq_true.1 hR2 i hi
    rw [Bool.and_eq_true] at this
    exact Nat.blt_eq.mp this.1
  · have := List.all_eq_true.1 hR2 i hi
    rw [Bool.and_eq_true] at this
    unfold Listed at hl
    rw [hl] at this
    simp at this
theorem heap_alloc_old {W : World} {g : Nat} {o o' : Obj} (h : W.heap[g]? = some o) : (W.alloc o').heap[g]? = some o := by
  have hl : g < W.heap.size := by
    rcases Nat.lt_or_ge g W.heap.size with hl | hl
    · exact hl
    · rw [Array.getElem?_eq_none hl] at h; cases h
  exact ((below_alloc W o').block g hl).trans h
/-- The operation of a number, so that it comes out as it is written. -/
def nthOp : Nat → List Oper → Option Oper
  | _, [] => none
  | 0, o :: _ => some o
  | n + 1, _ :: l => nthOp n l
theorem nthOp_eq : ∀ (i : Nat) (l : List Oper), nthOp i l = l[i]?
  | _, [] => by simp [nthOp]
  | 0, o :: l => by simp [nthOp]
  | n + 1, o :: l => by simp [nthOp, nthOp_eq n l]
theorem nth_at {i : Nat} {ops : Array Oper} {o : Oper} (h : nthOp i ops.toList = some o) : ops[i]? = some o := by rw [nthOp_eq] at h; simpa using h
theorem nth_of {i : Nat} {ops : Array Oper} {o : Oper} (h : ops[i]? = some o) : nthOp i ops.toList = some o := by rw [nthOp_eq]; simpa using h
theorem take_at {P : Program} {ops : Array Oper} {Q : Exit → Act → World → Prop} {md : Region.Mode} {S : World → Prop} {i : Nat} {oi : Oper} {v : Value} {fuel : Nat} {listed : Array Bool} {a : Act} {w : World} (hi : nthOp i ops.toList = some oi)
    (hs : Region.noSelect ops = true) (hf : Region.free md ops listed i = true) (hr : (Region.ready md ops listed).contains i = true)
    (hQ : ∀ c a w, Q (.panic c) (a.put oi.dst v) w → Q (.panic c) a w) (hy : YieldsIf P ops S oi v a) (hS : S w)
    (h : wpAnyH P md ops Q S fuel (listed.setIfInBounds i true) (a.put oi.dst v) w) : wpAnyH P md ops Q S (fuel + 1) listed a w := wpAnyH_take (nth_at hi) hs hf hr hQ hy hS h
/-- One operation alone may come up. -/
theorem wpAnyH_one {P : Program} {ops : Array Oper} {Q : Exit → Act → World → Prop} {md : Region.Mode} {S : World → Prop} (i : Nat) {o : Oper} {fuel : Nat} {listed : Array Bool} {a : Act} {w : World} (hr : Region.ready md ops listed = [i]) (ho : nthOp i ops.toList = some o) (hw : Region.wanted o (yielded ops a.tmps) = true)
    (h : ∀ K : Act → World → Prop, (∀ a' w', S w' → wpAnyH P md ops Q S fuel (listed.setIfInBounds i true) a' w' → K a' w') → Oper.wp P o a w K Q) : wpAnyH P md ops Q S (fuel + 1) listed a w := by
  refine wpAnyH_all hr (by simp) fun j hj => ?_
  obtain rfl := List.mem_singleton.1 hj
  refine wpOp_step (nth_at ho) fun K hK => ?_
  rw [if_pos hw]
  exact h K fun a' w' h1 h2 => hK a' w' ⟨h1, h2⟩
def infoSz (sz : Nat) (r : Option TypeInfo) : Bool :=
  match r with
  | some i => (match i.zero with
    | some z => Nat.beq i.size sz && Nat.ble i.bytes 1000 && Nat.beq z.cells.size sz
    | none => false)
  | none => false
theorem infoSz_spec {sz : Nat} {r : Option TypeInfo} (h : infoSz sz r = true) : ∃ i z, r = some i ∧ i.zero = some z ∧ i.size = sz ∧ i.bytes ≤ 1000 ∧ z.cells.size = sz := by
  unfold infoSz at h
  split at h
  · rename_i i
    split at h
    · rename_i z hz
      rw [Bool.and_eq_true, Bool.and_eq_true] at h
      exact ⟨i, z, rfl, hz, Nat.eq_of_beq_eq_true h.1.1, Nat.le_of_ble_eq_true h.1.2, Nat.eq_of_beq_eq_true h.2⟩
    · cases h
  · cases h
end Go.Proofs.YtnddlpfmagdbfaaGreatDoor
/- Contracts over a short story: its calls and trees, and the small functions on them. -/
namespace Go.Proofs.YtnddlpfmagdbfaaGreatDoor.Sto
open Go Go.Ev Go.Proofs Go.RowKit
set_option linter.unusedVariables false
set_option linter.unusedSimpArgs false
theorem cell_last (W : World) (cs : Array Value) (t : TypeId) (j : Nat) (v : Value) (n : Nat) (hn : n = W.heap.size) (hv : cs[j]? = some v) : (W.alloc (.cells cs t)).cell? ⟨n, j, none⟩ = some v := cell_new W cs t j v n hn hv
/-- A call of a story. -/
structure CallD where
  p : Int
  k : Int
  n : Int
  s : Int
  v : Int
  o : Int
  w : Int
  l : Int
  j : Int
  t : Int
  e : Bool
def isU8 (x : Int) : Prop := 0 ≤ x ∧ x < 256
def CallD.ok (x : CallD) : Prop := isU8 x.p ∧ isU8 x.k ∧ isU8 x.n ∧ isU8 x.s ∧ isU8 x.v ∧ isU8 x.o ∧ isU8 x.w ∧ isU8 x.l ∧ isU8 x.j ∧ isU8 x.t
def CallAt (W : World) (p : Addr) (x : CallD) : Prop :=
  W.cell? p = some (.int .u8 x.p) ∧ W.cell? ⟨p.block, p.off + 1, none⟩ = some (.int .u8 x.k) ∧ W.cell? ⟨p.block, p.off + 2, none⟩ = some (.int .u8 x.n) ∧ W.cell? ⟨p.block, p.off + 3, none⟩ = some (.int .u8 x.s) ∧
  W.cell? ⟨p.block, p.off + 4, none⟩ = some (.int .u8 x.v) ∧ W.cell? ⟨p.block, p.off + 5, none⟩ = some (.int .u8 x.o) ∧ W.cell? ⟨p.block, p.off + 6, none⟩ = some (.int .u8 x.w) ∧ W.cell? ⟨p.block, p.off + 7, none⟩ = some (.int .u8 x.l) ∧
  W.cell? ⟨p.block, p.off + 8, none⟩ = some (.int .u8 x.j) ∧ W.cell? ⟨p.block, p.off + 9, none⟩ = some (.int .u8 x.t) ∧ W.cell? ⟨p.block, p.off + 10, none⟩ = some (.bool x.e)
theorem CallAt.below {W W' : World} {p : Addr} {x : CallD} (h : CallAt W p x) (k : Below W.heap.size W W') : CallAt W' p x := by
  obtain ⟨h0, h1, h2, h3, h4, h5, h6, h7, h8, h9, h10⟩ := h
  have hlt := World.block_lt_of_cell? W _ h0
  exact ⟨(k.cell hlt).trans h0, (k.cell (p := ⟨p.block, p.off + 1, none⟩) hlt).trans h1, (k.cell (p := ⟨p.block, p.off + 2, none⟩) hlt).trans h2, (k.cell (p := ⟨p.block, p.off + 3, none⟩) hlt).trans h3,
    (k.cell (p := ⟨p.block, p.off + 4, none⟩) hlt).trans h4, (k.cell (p := ⟨p.block, p.off + 5, none⟩) hlt).trans h5, (k.cell (p := ⟨p.block, p.off + 6, none⟩) hlt).trans h6, (k.cell (p := ⟨p.block, p.off + 7, none⟩) hlt).trans h7,
    (k.cell (p := ⟨p.block, p.off + 8, none⟩) hlt).trans h8, (k.cell (p := ⟨p.block, p.off + 9, none⟩) hlt).trans h9, (k.cell (p := ⟨p.block, p.off + 10, none⟩) hlt).trans h10⟩
def CallsAt (W : World) (a : Option Addr) (cs : List CallD) : Prop := ∀ j (h : j < cs.length), ∃ ad, a = some ad ∧ CallAt W (ad.add (j * 11)) cs[j] ∧ cs[j].ok
theorem CallsAt.below {W W' : World} {a : Option Addr} {cs : List CallD} (h : CallsAt W a cs) (k : Below W.heap.size W W') : CallsAt W' a cs := fun j hj =>
  let ⟨ad, h1, h2, h3⟩ := h j hj
  ⟨ad, h1, h2.below k, h3⟩
/-- A tree of a story. -/
structure TreeD where
  s : Int
  f : Int
  a : Option Addr
  cs : List CallD
  c : Nat
def TreeAt (W : World) (p : Addr) (x : TreeD) : Prop :=
  W.cell? p = some (.int .u8 x.s) ∧ W.cell? ⟨p.block, p.off + 1, none⟩ = some (.int .u8 x.f) ∧ W.cell? ⟨p.block, p.off + 2, none⟩ = some (.slice x.a x.cs.length x.c) ∧ CallsAt W x.a x.cs ∧ isU8 x.s ∧ isU8 x.f
theorem TreeAt.below {W W' : World} {p : Addr} {x : TreeD} (h : TreeAt W p x) (k : Below W.heap.size W W') : TreeAt W' p x := by
  obtain ⟨h0, h1, h2, h3, h4, h5⟩ := h
  have hlt := World.block_lt_of_cell? W _ h0
  exact ⟨(k.cell hlt).trans h0, (k.cell (p := ⟨p.block, p.off + 1, none⟩) hlt).trans h1, (k.cell (p := ⟨p.block, p.off + 2, none⟩) hlt).trans h2, h3.below k, h4, h5⟩
def TreesAt (W : World) (a : Option Addr) (ts : List TreeD) : Prop := ∀ j (h : j < ts.length), ∃ ad, a = some ad ∧ TreeAt W (ad.add (j * 3)) ts[j]
theorem TreesAt.below {W W' : World} {a : Option Addr} {ts : List TreeD} (h : TreesAt W a ts) (k : Below W.heap.size W W') : TreesAt W' a ts := fun j hj =>
  let ⟨ad, h1, h2⟩ := h j hj
  ⟨ad, h1, h2.below k⟩

/-- A story. -/
structure StoryD where
  a : Option Addr
  ts : List TreeD
  c : Nat
  o0 : Int
  o1 : Int
  o2 : Int
  o3 : Int
  b : Option Addr
  m : Nat
  d : Nat
  q : Int
def isI8 (x : Int) : Prop := -128 ≤ x ∧ x < 128
def kindX (x : CallD) : Int := 1 + x.n % 5
set_option maxHeartbeats 4000000 in
theorem kind_any (x : CallD) (h : x.ok) (w : World) :
    Calls Tryz.prog 86 #[.agg #[.int .u8 x.p, .int .u8 x.k, .int .u8 x.n, .int .u8 x.s, .int .u8 x.v, .int .u8 x.o, .int .u8 x.w, .int .u8 x.l, .int .u8 x.j, .int .u8 x.t, .bool x.e]] w fun e w' => e = .returned (.int .i64 (kindX x)) ∧ Below w.heap.size w w' := by
  obtain ⟨-, -, h, -⟩ := h
  unfold isU8 at h
  have hk : kindX x = 1 + x.n % 5 := rfl
  generalize kindX x = kx at *
  generalize x.n = n at *
  go_enter Tryz.func86, Tryz.ntmps86
  go_wp2_with fail
  go_ret
  exact ⟨by rw [hk]; rfl, below_alloc _ _⟩
/-- The offset of a clock. -/
def offX (o0 o1 o2 o3 : Int) (i : Int) : Int := (if i = 1 then o0 else if i = 2 then o1 else if i = 3 then o2 else o3).tmod 21
set_option maxHeartbeats 4000000 in
theorem offset_any (a : Option Addr) (n c : Nat) (o0 o1 o2 o3 : Int) (b : Option Addr) (m d : Nat) (q i : Int) (h1 : 1 ≤ i) (h4 : i ≤ 4) (g0 : isI8 o0) (g1 : isI8 o1) (g2 : isI8 o2) (g3 : isI8 o3) (w : World) :
    Calls Tryz.prog 64 #[.agg #[.slice a n c, .int .i8 o0, .int .i8 o1, .int .i8 o2, .int .i8 o3, .slice b m d, .int .u8 q], .int .i64 i] w fun e w' => e = .returned (.int .i64 (offX o0 o1 o2 o3 i)) ∧ Below w.heap.size w w' := by
  unfold isI8 at g0 g1 g2 g3
  have y0 : (w.alloc (.cells #[.slice a n c, .int .i8 o0, .int .i8 o1, .int .i8 o2, .int .i8 o3, .slice b m d, .int .u8 q] 52)).cell? ⟨w.heap.size, 1, none⟩ = some (.int .i8 o0) := cell_last _ _ _ _ _ _ rfl rfl
  obtain rfl | rfl | rfl | rfl : i = 1 ∨ i = 2 ∨ i = 3 ∨ i = 4 := by omega
  all_goals
    clear h1 h4
    go_enter Tryz.func64, Tryz.ntmps64
    go_wp2_with fail
    go_ret
    exact ⟨rfl, below_alloc _ _⟩
/-- A trace's id. -/
def tidX (x : TreeD) (k : Nat) : Int := x.s % 64 * 1048576 + 1 + k
set_option maxHeartbeats 4000000 in
theorem traceId_any (a : Option Addr) (ts : List TreeD) (c : Nat) (o0 o1 o2 o3 : Int) (b : Option Addr) (m d : Nat) (q : Int) (k : Nat) (hk : k < ts.length) (hl : ts.length ≤ 1000) (w : World) (ht : TreesAt w a ts) :
    Calls Tryz.prog 36 #[.agg #[.slice a ts.length c, .int .i8 o0, .int .i8 o1, .int .i8 o2, .int .i8 o3, .slice b m d, .int .u8 q], .int .i64 k] w fun e w' => e = .returned (.int .i64 (tidX ts[k] k)) ∧ Below w.heap.size w w' := by
  obtain ⟨ad, rfl, h0, h1, h2, h3, h4, h5⟩ := ht.below (below_alloc w (.cells #[.slice a ts.length c, .int .i8 o0, .int .i8 o1, .int .i8 o2, .int .i8 o3, .slice b m d, .int .u8 q] 52)) k hk
  have hv : tidX ts[k] k = ts[k].s % 64 * 1048576 + 1 + k := rfl
  clear ht h1 h2 h3
  generalize tidX ts[k] k = v at *
  generalize ts[k] = x at *
  unfold isU8 at h4 h5
  go_enter Tryz.func36, Tryz.ntmps36
  go_wp2_with fail
  go_ret
  exact ⟨by rw [hv]; rfl, below_alloc _ _⟩
/-- The attributes of a call. -/
def zones : List ByteArray := [⟨#[97]⟩, ⟨#[98]⟩, ⟨#[119, 101, 115, 116, 32, 49]⟩]
def attrAll (t : Nat) : List AttrD := [⟨⟨#[111, 107]⟩, 3, ⟨#[]⟩, .ofNat (t / 4 % 2)⟩, ⟨⟨#[115, 105, 122, 101]⟩, 2, ⟨#[]⟩, Int.sub (.ofNat t) 100⟩, ⟨⟨#[122, 111, 110, 101]⟩, 1, zones.getD (t / 8 % 3) ⟨#[]⟩, 0⟩]
def attrX (t : Nat) : List AttrD := (attrAll t).take (t % 4)
/-- A call's value. -/
def CallD.val (x : CallD) (t : Int) : Value := .agg #[.int .u8 x.p, .int .u8 x.k, .int .u8 x.n, .int .u8 x.s, .int .u8 x.v, .int .u8 x.o, .int .u8 x.w, .int .u8 x.l, .int .u8 x.j, .int .u8 t, .bool x.e]
/-- Is this the slice of the attributes? -/
noncomputable def attrB (t : Nat) (r : Option (Value × Hp)) : Bool :=
  match r with
  | some (.slice (some ⟨b, 0, none⟩) n c, h') => Nat.beq n (t % 4) && (Nat.beq c 3 && (match h'.get b with
    | some (.cells cs ty false) => Nat.beq ty 110 && sameL cs ((attrAll t).flatMap AttrD.cells)
    | _ => false))
  | _ => false
set_option maxRecDepth 100000 in
theorem attrs_all (x : CallD) : ((List.range 256).all fun t => attrB t (evCall Tryz.prog noExt 100 (.func 87) [x.val (.ofNat t)] ⟨mkT (blksOf (fun _ => 0) [] ++ []), 64, 64⟩)) = true := by kernel_rfl
set_option maxRecDepth 100000 in
theorem attrs_any (x : CallD) (h : x.ok) (w : World) :
    Calls Tryz.prog 87 #[.agg #[.int .u8 x.p, .int .u8 x.k, .int .u8 x.n, .int .u8 x.s, .int .u8 x.v, .int .u8 x.o, .int .u8 x.w, .int .u8 x.l, .int .u8 x.j, .int .u8 x.t, .bool x.e]] w fun e w' => (∃ g, e = .returned (.slice (some ⟨g, 0, none⟩) (attrX x.t.toNat).length 3) ∧ AttrsAt w' (some ⟨g, 0, none⟩) (attrX x.t.toNat) ∧ w.heap.size ≤ g ∧ g < w'.heap.size) ∧ Below w.heap.size w w' := by
  obtain ⟨-, -, -, -, -, -, -, -, -, h⟩ := h
  unfold isU8 at h
  have hx := attrs_all x
  rw [List.all_eq_true] at hx
  have hk := hx x.t.toNat (List.mem_range.2 (by omega))
  have ht : Int.ofNat x.t.toNat = x.t := by simp; omega
  rw [ht] at hk
  generalize x.t.toNat = t at *
  unfold attrB at hk
  split at hk
  · rename_i b n c h' hr
    rw [Bool.and_eq_true, Bool.and_eq_true] at hk
    obtain ⟨k1, k2, k3⟩ := hk
    split at k3
    · rename_i cs ty hb
      rw [Bool.and_eq_true] at k3
      obtain rfl := Nat.eq_of_beq_eq_true k1
      obtain rfl := Nat.eq_of_beq_eq_true k2
      obtain rfl := Nat.eq_of_beq_eq_true k3.1
      have hcs := sameL_eq k3.2
      refine (deep_at (P := Tryz.prog) (args := [x.val x.t]) (evCall_ok mixed noExt_ok 100) (fun v hv => by simp at hv; subst hv; kernel_rfl) hr w).mono ?_
      rintro e w' ⟨e', rfl, h1, h2⟩
      obtain ⟨h3, h4⟩ := h1 b cs _ hb
      rw [sameL_conc k3.2] at h4
      have hl : (attrX t).length = t % 4 := by unfold attrX attrAll; rw [List.length_take]; simp; omega
      refine ⟨⟨e'.phi b, ?_, ?_, h3, blk_lt h4⟩, h2⟩
      · rw [hl]; rfl
      · intro j hj
        have hj3 : j < 3 := by rw [hl] at hj; omega
        have e0 : (attrX t)[j] = (attrAll t)[j]'(by simpa [attrAll] using hj3) := by simp only [attrX, List.getElem_take]
        rw [e0, hcs] at *
        refine ⟨_, rfl, ?_⟩
        rw [Addr.add_mid, Nat.zero_add]
        obtain rfl | rfl | rfl : j = 0 ∨ j = 1 ∨ j = 2 := by omega
        all_goals exact ⟨cell_blk h4 _ rfl, cell_blk h4 _ rfl, cell_blk h4 _ rfl, cell_blk h4 _ rfl⟩
    · cases k3
  · cases hk
end Go.Proofs.YtnddlpfmagdbfaaGreatDoor.Sto
/- Contract: is a story short. -/
namespace Go.Proofs.YtnddlpfmagdbfaaGreatDoor.Sto
open Go Go.Ev Go.Proofs Go.RowKit
set_option linter.unusedVariables false
set_option linter.unusedSimpArgs false
/-- What the answer says. -/
def ShortP (ts : List TreeD) (m : Nat) (e : Ending) : Prop := ∃ r : Bool, e = .returned (.bool r) ∧ (r = true → ts.length ≤ 3 ∧ m ≤ 6 ∧ ∀ j (hj : j < ts.length), ts[j].cs.length ≤ 8)
theorem ShortP.no {ts : List TreeD} {m : Nat} : ShortP ts m (.returned (.bool false)) := ⟨false, rfl, fun h => by cases h⟩
theorem ShortP.yes {ts : List TreeD} {m : Nat} (h1 : ts.length ≤ 3) (h2 : m ≤ 6) (h3 : ∀ j (hj : j < ts.length), ts[j].cs.length ≤ 8) : ShortP ts m (.returned (.bool true)) := ⟨true, rfl, fun _ => ⟨h1, h2, h3⟩⟩
set_option maxRecDepth 20000 in
set_option maxHeartbeats 4000000 in
theorem short_any (a : Option Addr) (ts : List TreeD) (c : Nat) (o0 o1 o2 o3 : Int) (b : Option Addr) (m d : Nat) (q : Int) (w : World) (ht : TreesAt w a ts) (hl : ts.length ≤ maxLen) (hm : m ≤ maxLen) (hcl : ∀ j (hj : j < ts.length), ts[j].cs.length ≤ maxLen) :
    Calls Tryz.prog 17 #[.agg #[.slice a ts.length c, .int .i8 o0, .int .i8 o1, .int .i8 o2, .int .i8 o3, .slice b m d, .int .u8 q]] w fun e w' =>
      ShortP ts m e ∧ Below w.heap.size w w' := by
  have HB := Lib.hid (below_alloc w (.cells #[.slice a ts.length c, .int .i8 o0, .int .i8 o1, .int .i8 o2, .int .i8 o3, .slice b m d, .int .u8 q] 52))
  have HT := Lib.hid (ht.below HB.out)
  have HC := Lib.hid hcl
  clear ht hcl
  unfold maxLen at hl hm
  go_enter Tryz.func17, Tryz.ntmps17
  go_wp2_with fail
  go_loopw [3] (fun i wr => ∃ j : Nat, j ≤ ts.length ∧ i = .int .i64 j ∧ wr = w.alloc (.cells #[.slice a ts.length c, .int .i8 o0, .int .i8 o1, .int .i8 o2, .int .i8 o3, .slice b m d, .int .u8 q] 52) ∧ Hid (∀ k (hk : k < ts.length), k < j → ts[k].cs.length ≤ 8)) (fun i _ => ts.length - (intOf i).toNat)
  case atStart => exact ⟨0, by omega, rfl, rfl, Lib.hid (fun k _ hk => by omega)⟩
  case round =>
    obtain ⟨j, hj, rfl, rfl, hG⟩ := hrel
    by_cases hlt : j < ts.length
    · obtain ⟨ad, rfl, h0, h1, h2, h3, h4, h5⟩ := HT.out j hlt
      have hcj := HC.out j hlt
      unfold maxLen at hcj
      have HN : Hid (ts[j].cs.length ≤ 8 → ∀ k (hk : k < ts.length), k < j + 1 → ts[k].cs.length ≤ 8) := Lib.hid (fun h k hk hkj => by
        by_cases hkj2 : k = j
        · subst hkj2; exact h
        · exact hG.out k hk (by omega))
      clear h0 h1 h3 h4 h5
      generalize ts[j] = x at *
      go_wp2_with fail
      all_goals first
        | (go_ret; exact ⟨ShortP.no, HB.out⟩)
        | (have h8 : x.cs.length ≤ 8 := by omega
           exact ⟨⟨j + 1, by omega, by go_num, trivial, Lib.hid (HN.out h8)⟩, by simp [intOf]; omega⟩)
    · obtain rfl : j = ts.length := by omega
      go_wp2_with fail
      all_goals
        go_ret
        refine ⟨?_, HB.out⟩
        first
          | exact ShortP.no
          | (show ShortP ts m (.returned (.bool (decide ((m : Int) ≤ 6))))
             by_cases hm6 : (m : Int) ≤ 6
             · rw [decide_eq_true hm6]
               exact ShortP.yes (by omega) (by omega) fun k hk => hG.out k hk hk
             · rw [decide_eq_false hm6]
               exact ShortP.no)
end Go.Proofs.YtnddlpfmagdbfaaGreatDoor.Sto
/- Contract: the span of a call. -/
namespace Go.Proofs.YtnddlpfmagdbfaaGreatDoor.Sto
open Go Go.Ev Go.Proofs Go.RowKit
set_option linter.unusedVariables false
set_option linter.unusedSimpArgs false
/-- ints lie in a row -/
def IntsAt (W : World) (a : Option Addr) (l : List Int) : Prop := ∀ j (h : j < l.length), ∃ ad, a = some ad ∧ W.cell? (ad.add j) = some (.int .i64 l[j])
theorem IntsAt.below {W W' : World} {a : Option Addr} {l : List Int} (h : IntsAt W a l) (k : Below W.heap.size W W') : IntsAt W' a l := fun j hj => by
  obtain ⟨ad, h1, h2⟩ := h j hj
  exact ⟨ad, h1, (k.cell (World.block_lt_of_cell? W _ h2)).trans h2⟩
/-- the cells of a box -/
def BoxAt (W : World) (g : Nat) (cs : List Value) : Prop := ∀ i v, cs[i]? = some v → W.cell? ⟨g, i, none⟩ = some v
theorem BoxAt.below {W W' : World} {g : Nat} {cs : List Value} (h : BoxAt W g cs) (k : Below W.heap.size W W') : BoxAt W' g cs := fun i v hv =>
  (k.cell (p := ⟨g, i, none⟩) (World.block_lt_of_cell? W _ (h i v hv))).trans (h i v hv)
def cellsStory (a : Option Addr) (n c : Nat) (o0 o1 o2 o3 : Int) (b : Option Addr) (m d : Nat) (q : Int) : List Value := [.slice a n c, .int .i8 o0, .int .i8 o1, .int .i8 o2, .int .i8 o3, .slice b m d, .int .u8 q]
def CallD.cells (x : CallD) : List Value := [.int .u8 x.p, .int .u8 x.k, .int .u8 x.n, .int .u8 x.s, .int .u8 x.v, .int .u8 x.o, .int .u8 x.w, .int .u8 x.l, .int .u8 x.j, .int .u8 x.t, .bool x.e]
theorem BoxAt.story {W : World} {g : Nat} {a : Option Addr} {n c : Nat} {o0 o1 o2 o3 : Int} {b : Option Addr} {m d : Nat} {q : Int} (h : BoxAt W g (cellsStory a n c o0 o1 o2 o3 b m d q)) :
    W.cell? ⟨g, 0, none⟩ = some (.slice a n c) ∧ W.cell? ⟨g, 1, none⟩ = some (.int .i8 o0) ∧ W.cell? ⟨g, 2, none⟩ = some (.int .i8 o1) ∧ W.cell? ⟨g, 3, none⟩ = some (.int .i8 o2) ∧ W.cell? ⟨g, 4, none⟩ = some (.int .i8 o3) ∧ W.cell? ⟨g, 5, none⟩ = some (.slice b m d) ∧ W.cell? ⟨g, 6, none⟩ = some (.int .u8 q) :=
  ⟨h 0 _ rfl, h 1 _ rfl, h 2 _ rfl, h 3 _ rfl, h 4 _ rfl, h 5 _ rfl, h 6 _ rfl⟩
theorem BoxAt.call {W : World} {g : Nat} {x : CallD} (h : BoxAt W g x.cells) :
    W.cell? ⟨g, 0, none⟩ = some (.int .u8 x.p) ∧ W.cell? ⟨g, 1, none⟩ = some (.int .u8 x.k) ∧ W.cell? ⟨g, 2, none⟩ = some (.int .u8 x.n) ∧ W.cell? ⟨g, 3, none⟩ = some (.int .u8 x.s) ∧ W.cell? ⟨g, 4, none⟩ = some (.int .u8 x.v) ∧ W.cell? ⟨g, 5, none⟩ = some (.int .u8 x.o) ∧
    W.cell? ⟨g, 6, none⟩ = some (.int .u8 x.w) ∧ W.cell? ⟨g, 7, none⟩ = some (.int .u8 x.l) ∧ W.cell? ⟨g, 8, none⟩ = some (.int .u8 x.j) ∧ W.cell? ⟨g, 9, none⟩ = some (.int .u8 x.t) ∧ W.cell? ⟨g, 10, none⟩ = some (.bool x.e) :=
  ⟨h 0 _ rfl, h 1 _ rfl, h 2 _ rfl, h 3 _ rfl, h 4 _ rfl, h 5 _ rfl, h 6 _ rfl, h 7 _ rfl, h 8 _ rfl, h 9 _ rfl, h 10 _ rfl⟩
/-- A span without anything. -/
def cells89 : Array Value := #[.int .i64 0, .int .i64 0, .int .i64 0, .int .i64 0, .int .i64 0, .int .i64 0, .string ⟨#[]⟩, .string ⟨#[]⟩, .string ⟨#[]⟩, .int .i64 0, .int .i64 0, .bool false, .slice none 0 0, .slice none 0 0]
/-- What is held in the region. -/
abbrev MadeS (w : World) (g : Nat) (a : Option Addr) (n c : Nat) (o0 o1 o2 o3 : Int) (b : Option Addr) (m d : Nat) (q : Int) (x : CallD) (sp ep : Addr) (s e : Int) (W : World) : Prop :=
  (W.cell? ⟨g, 0, none⟩ = some (.slice a n c) ∧ W.cell? ⟨g, 1, none⟩ = some (.int .i8 o0) ∧ W.cell? ⟨g, 2, none⟩ = some (.int .i8 o1) ∧ W.cell? ⟨g, 3, none⟩ = some (.int .i8 o2) ∧ W.cell? ⟨g, 4, none⟩ = some (.int .i8 o3) ∧ W.cell? ⟨g, 5, none⟩ = some (.slice b m d) ∧ W.cell? ⟨g, 6, none⟩ = some (.int .u8 q)) ∧
  (W.cell? ⟨g + 1 + 1, 0, none⟩ = some (.int .u8 x.p) ∧ W.cell? ⟨g + 1 + 1, 1, none⟩ = some (.int .u8 x.k) ∧ W.cell? ⟨g + 1 + 1, 2, none⟩ = some (.int .u8 x.n) ∧ W.cell? ⟨g + 1 + 1, 3, none⟩ = some (.int .u8 x.s) ∧ W.cell? ⟨g + 1 + 1, 4, none⟩ = some (.int .u8 x.v) ∧ W.cell? ⟨g + 1 + 1, 5, none⟩ = some (.int .u8 x.o) ∧
    W.cell? ⟨g + 1 + 1, 6, none⟩ = some (.int .u8 x.w) ∧ W.cell? ⟨g + 1 + 1, 7, none⟩ = some (.int .u8 x.l) ∧ W.cell? ⟨g + 1 + 1, 8, none⟩ = some (.int .u8 x.j) ∧ W.cell? ⟨g + 1 + 1, 9, none⟩ = some (.int .u8 x.t) ∧ W.cell? ⟨g + 1 + 1, 10, none⟩ = some (.bool x.e)) ∧
  W.cell? sp = some (.int .i64 s) ∧ W.cell? ep = some (.int .i64 e) ∧ Below w.heap.size w W ∧ W.heap[g + 1]? = some (.cells cells89 73 (0, 0))
theorem MadeS.below {w W W' : World} {g : Nat} {a : Option Addr} {n c : Nat} {o0 o1 o2 o3 : Int} {b : Option Addr} {m d : Nat} {q : Int} {x : CallD} {sp ep : Addr} {s e : Int} (h : MadeS w g a n c o0 o1 o2 o3 b m d q x sp ep s e W) (k : Below W.heap.size W W') : MadeS w g a n c o0 o1 o2 o3 b m d q x sp ep s e W' := by
  obtain ⟨⟨h0, h1, h2, h3, h4, h5, h6⟩, ⟨c0, c1, c2, c3, c4, c5, c6, c7, c8, c9, c10⟩, hs, he, hb, hz⟩ := h
  have l0 := World.block_lt_of_cell? W _ h0
  have l2 := World.block_lt_of_cell? W _ c0
  exact ⟨⟨(k.cell l0).trans h0, (k.cell (p := ⟨g, 1, none⟩) l0).trans h1, (k.cell (p := ⟨g, 2, none⟩) l0).trans h2, (k.cell (p := ⟨g, 3, none⟩) l0).trans h3, (k.cell (p := ⟨g, 4, none⟩) l0).trans h4, (k.cell (p := ⟨g, 5, none⟩) l0).trans h5, (k.cell (p := ⟨g, 6, none⟩) l0).trans h6⟩,
    ⟨(k.cell l2).trans c0, (k.cell (p := ⟨g + 1 + 1, 1, none⟩) l2).trans c1, (k.cell (p := ⟨g + 1 + 1, 2, none⟩) l2).trans c2, (k.cell (p := ⟨g + 1 + 1, 3, none⟩) l2).trans c3, (k.cell (p := ⟨g + 1 + 1, 4, none⟩) l2).trans c4, (k.cell (p := ⟨g + 1 + 1, 5, none⟩) l2).trans c5, (k.cell (p := ⟨g + 1 + 1, 6, none⟩) l2).trans c6, (k.cell (p := ⟨g + 1 + 1, 7, none⟩) l2).trans c7, (k.cell (p := ⟨g + 1 + 1, 8, none⟩) l2).trans c8, (k.cell (p := ⟨g + 1 + 1, 9, none⟩) l2).trans c9, (k.cell (p := ⟨g + 1 + 1, 10, none⟩) l2).trans c10⟩,
    (k.cell (World.block_lt_of_cell? W _ hs)).trans hs, (k.cell (World.block_lt_of_cell? W _ he)).trans he, hb.trans (k.mono hb.size), blk_keep k hz⟩
theorem MadeS.beh {w W : World} {g : Nat} {a : Option Addr} {n c : Nat} {o0 o1 o2 o3 : Int} {b : Option Addr} {m d : Nat} {q : Int} {x : CallD} {sp ep : Addr} {s e : Int} (h : MadeS w g a n c o0 o1 o2 o3 b m d q x sp ep s e W) : Below w.heap.size w W := h.2.2.2.2.1
theorem MadeS.set {w W : World} {g : Nat} {a : Option Addr} {n c : Nat} {o0 o1 o2 o3 : Int} {b : Option Addr} {m d : Nat} {q : Int} {x : CallD} {sp ep : Addr} {s e : Int} (h : MadeS w g a n c o0 o1 o2 o3 b m d q x sp ep s e W) {r j : Nat} {v : Value} (hg : g = w.heap.size) (hr : w.heap.size + 3 ≤ r) (hs : sp.block < w.heap.size) (he : ep.block < w.heap.size) :
    MadeS w g a n c o0 o1 o2 o3 b m d q x sp ep s e (W.setCell ⟨r, j, none⟩ v) := by
  subst hg
  obtain ⟨⟨h0, h1, h2, h3, h4, h5, h6⟩, ⟨c0, c1, c2, c3, c4, c5, c6, c7, c8, c9, c10⟩, h7, h8, hb, hz⟩ := h
  have k : ∀ p : Addr, p.block ≠ r → (W.setCell ⟨r, j, none⟩ v).cell? p = W.cell? p := fun p hp => World.cell?_setCell_far _ _ _ _ (Ne.symm hp)
  exact ⟨⟨(k _ (by simp; omega)).trans h0, (k _ (by simp; omega)).trans h1, (k _ (by simp; omega)).trans h2, (k _ (by simp; omega)).trans h3, (k _ (by simp; omega)).trans h4, (k _ (by simp; omega)).trans h5, (k _ (by simp; omega)).trans h6⟩,
    ⟨(k _ (by simp; omega)).trans c0, (k _ (by simp; omega)).trans c1, (k _ (by simp; omega)).trans c2, (k _ (by simp; omega)).trans c3, (k _ (by simp; omega)).trans c4, (k _ (by simp; omega)).trans c5, (k _ (by simp; omega)).trans c6, (k _ (by simp; omega)).trans c7, (k _ (by simp; omega)).trans c8, (k _ (by simp; omega)).trans c9, (k _ (by simp; omega)).trans c10⟩,
    (k _ (by omega)).trans h7, (k _ (by omega)).trans h8, hb.setCell (by simp; omega) _, (heap_setCell_other W ⟨r, j, none⟩ _ v (by simp; omega)).trans hz⟩
theorem MadeS.cells {w : World} {g : Nat} {a : Option Addr} {n c : Nat} {o0 o1 o2 o3 : Int} {b : Option Addr} {m d : Nat} {q : Int} {x : CallD} {sp ep : Addr} {s e : Int} {r : Nat} (hg : g = w.heap.size) (hr : w.heap.size + 3 ≤ r) (hs : sp.block < w.heap.size) (he : ep.block < w.heap.size) :
    ∀ (vs : List Value) (j : Nat) (W : World), MadeS w g a n c o0 o1 o2 o3 b m d q x sp ep s e W → MadeS w g a n c o0 o1 o2 o3 b m d q x sp ep s e (W.setCells r j vs)
  | [], _, _, h => h
  | v :: vs, j, W, h => MadeS.cells hg hr hs he vs (j + 1) _ (h.set hg hr hs he)
theorem MadeS.room {w W : World} {a : Option Addr} {n c : Nat} {o0 o1 o2 o3 : Int} {b : Option Addr} {m d : Nat} {q : Int} {x : CallD} {sp ep : Addr} {s e : Int} (h : MadeS w w.heap.size a n c o0 o1 o2 o3 b m d q x sp ep s e W) : w.heap.size + 3 ≤ W.heap.size := World.block_lt_of_cell? W _ h.2.1.1
/-- The cells of a block of 14. -/
theorem cells14 {W : World} {r : Nat} {v0 v1 v2 v3 v4 v5 v6 v7 v8 v9 v10 v11 v12 v13 : Value} {t : TypeId} (h : W.heap[r]? = some (.cells #[v0, v1, v2, v3, v4, v5, v6, v7, v8, v9, v10, v11, v12, v13] t (0, 0))) :
    (W.cell? ⟨r, 0, none⟩ = some v0 ∧ W.cell? ⟨r, 1, none⟩ = some v1 ∧ W.cell? ⟨r, 2, none⟩ = some v2 ∧ W.cell? ⟨r, 3, none⟩ = some v3 ∧ W.cell? ⟨r, 4, none⟩ = some v4 ∧ W.cell? ⟨r, 5, none⟩ = some v5 ∧ W.cell? ⟨r, 6, none⟩ = some v6 ∧ W.cell? ⟨r, 7, none⟩ = some v7 ∧ W.cell? ⟨r, 8, none⟩ = some v8 ∧ W.cell? ⟨r, 9, none⟩ = some v9 ∧ W.cell? ⟨r, 10, none⟩ = some v10 ∧ W.cell? ⟨r, 11, none⟩ = some v11 ∧ W.cell? ⟨r, 12, none⟩ = some v12 ∧ W.cell? ⟨r, 13, none⟩ = some v13) ∧
    ∀ i, W.frozen? ⟨r, i, none⟩ = false := by
  refine ⟨⟨cell_blk h 0 rfl, cell_blk h 1 rfl, cell_blk h 2 rfl, cell_blk h 3 rfl, cell_blk h 4 rfl, cell_blk h 5 rfl, cell_blk h 6 rfl, cell_blk h 7 rfl, cell_blk h 8 rfl, cell_blk h 9 rfl, cell_blk h 10 rfl, cell_blk h 11 rfl, cell_blk h 12 rfl, cell_blk h 13 rfl⟩, fun i => ?_⟩
  simp only [World.frozen?, h]
  simp
theorem MadeS.mk {w W : World} {g : Nat} {a : Option Addr} {n c : Nat} {o0 o1 o2 o3 : Int} {b : Option Addr} {m d : Nat} {q : Int} {x : CallD} {sp ep : Addr} {s e : Int} {t0 t2 : TypeId} {f0 f2 : Nat × Nat}
    (h0 : W.heap[g]? = some (.cells #[.slice a n c, .int .i8 o0, .int .i8 o1, .int .i8 o2, .int .i8 o3, .slice b m d, .int .u8 q] t0 f0))
    (h2 : W.heap[g + 1 + 1]? = some (.cells #[.int .u8 x.p, .int .u8 x.k, .int .u8 x.n, .int .u8 x.s, .int .u8 x.v, .int .u8 x.o, .int .u8 x.w, .int .u8 x.l, .int .u8 x.j, .int .u8 x.t, .bool x.e] t2 f2))
    (hs : W.cell? sp = some (.int .i64 s)) (he : W.cell? ep = some (.int .i64 e)) (hb : Below w.heap.size w W) (hz : W.heap[g + 1]? = some (.cells cells89 73 (0, 0))) : MadeS w g a n c o0 o1 o2 o3 b m d q x sp ep s e W :=
  ⟨⟨cell_blk h0 0 rfl, cell_blk h0 1 rfl, cell_blk h0 2 rfl, cell_blk h0 3 rfl, cell_blk h0 4 rfl, cell_blk h0 5 rfl, cell_blk h0 6 rfl⟩,
   ⟨cell_blk h2 0 rfl, cell_blk h2 1 rfl, cell_blk h2 2 rfl, cell_blk h2 3 rfl, cell_blk h2 4 rfl, cell_blk h2 5 rfl, cell_blk h2 6 rfl, cell_blk h2 7 rfl, cell_blk h2 8 rfl, cell_blk h2 9 rfl, cell_blk h2 10 rfl⟩, hs, he, hb, hz⟩
/-- The names. -/
def svcs : List ByteArray := [⟨#[97, 112, 105]⟩, ⟨#[100, 98]⟩, ⟨#[119, 101, 98]⟩, ⟨#[99, 97, 99, 104, 101]⟩]
def vers : List ByteArray := [⟨#[118, 49]⟩, ⟨#[118, 50]⟩, ⟨#[]⟩]
def opns : List ByteArray := [⟨#[103, 101, 116]⟩, ⟨#[112, 117, 116]⟩, ⟨#[108, 105, 115, 116]⟩]
def nth (l : List ByteArray) (i : Int) : ByteArray := l.getD i.toNat ⟨#[]⟩
theorem svc_at (W : World) (i : Int) (h0 : 0 ≤ i.tmod 4) (h4 : i.tmod 4 < 4) : (W.alloc (.cells #[.string ⟨#[97, 112, 105]⟩, .string ⟨#[100, 98]⟩, .string ⟨#[119, 101, 98]⟩, .string ⟨#[99, 97, 99, 104, 101]⟩] 9)).cell? ⟨W.heap.size, (i.tmod 4).toNat, none⟩ = some (.string (nth svcs (i.tmod 4))) := by
  generalize i.tmod 4 = u at *
  obtain rfl | rfl | rfl | rfl : u = 0 ∨ u = 1 ∨ u = 2 ∨ u = 3 := by omega
  all_goals exact cell_last _ _ _ _ _ _ rfl rfl
theorem ver_at (W : World) (i : Int) (h0 : 0 ≤ i.tmod 3) (h4 : i.tmod 3 < 3) : (W.alloc (.cells #[.string ⟨#[118, 49]⟩, .string ⟨#[118, 50]⟩, .string ⟨#[]⟩] 9)).cell? ⟨W.heap.size, (i.tmod 3).toNat, none⟩ = some (.string (nth vers (i.tmod 3))) := by
  generalize i.tmod 3 = u at *
  obtain rfl | rfl | rfl : u = 0 ∨ u = 1 ∨ u = 2 := by omega
  all_goals exact cell_last _ _ _ _ _ _ rfl rfl
theorem opn_at (W : World) (i : Int) (h0 : 0 ≤ i.tmod 3) (h4 : i.tmod 3 < 3) : (W.alloc (.cells #[.string ⟨#[103, 101, 116]⟩, .string ⟨#[112, 117, 116]⟩, .string ⟨#[108, 105, 115, 116]⟩] 9)).cell? ⟨W.heap.size, (i.tmod 3).toNat, none⟩ = some (.string (nth opns (i.tmod 3))) := by
  generalize i.tmod 3 = u at *
  obtain rfl | rfl | rfl : u = 0 ∨ u = 1 ∨ u = 2 := by omega
  all_goals exact cell_last _ _ _ _ _ _ rfl rfl
theorem svc_get (i : Int) (h0 : 0 ≤ i.tmod 4) (h4 : i.tmod 4 < 4) (h : (i.tmod 4).toNat < [Value.string ⟨#[97, 112, 105]⟩, .string ⟨#[100, 98]⟩, .string ⟨#[119, 101, 98]⟩, .string ⟨#[99, 97, 99, 104, 101]⟩].length) : [Value.string ⟨#[97, 112, 105]⟩, .string ⟨#[100, 98]⟩, .string ⟨#[119, 101, 98]⟩, .string ⟨#[99, 97, 99, 104, 101]⟩][(i.tmod 4).toNat]'h = .string (nth svcs (i.tmod 4)) := by
  generalize i.tmod 4 = u at *
  obtain rfl | rfl | rfl | rfl : u = 0 ∨ u = 1 ∨ u = 2 ∨ u = 3 := by omega
  all_goals rfl
theorem ver_get (i : Int) (h0 : 0 ≤ i.tmod 3) (h4 : i.tmod 3 < 3) (h : (i.tmod 3).toNat < [Value.string ⟨#[118, 49]⟩, .string ⟨#[118, 50]⟩, .string ⟨#[]⟩].length) : [Value.string ⟨#[118, 49]⟩, .string ⟨#[118, 50]⟩, .string ⟨#[]⟩][(i.tmod 3).toNat]'h = .string (nth vers (i.tmod 3)) := by
  generalize i.tmod 3 = u at *
  obtain rfl | rfl | rfl : u = 0 ∨ u = 1 ∨ u = 2 := by omega
  all_goals rfl
theorem opn_get (i : Int) (h0 : 0 ≤ i.tmod 3) (h4 : i.tmod 3 < 3) (h : (i.tmod 3).toNat < [Value.string ⟨#[103, 101, 116]⟩, .string ⟨#[112, 117, 116]⟩, .string ⟨#[108, 105, 115, 116]⟩].length) : [Value.string ⟨#[103, 101, 116]⟩, .string ⟨#[112, 117, 116]⟩, .string ⟨#[108, 105, 115, 116]⟩][(i.tmod 3).toNat]'h = .string (nth opns (i.tmod 3)) := by
  generalize i.tmod 3 = u at *
  obtain rfl | rfl | rfl : u = 0 ∨ u = 1 ∨ u = 2 := by omega
  all_goals rfl
/-- .. and a block r known whole, and the one at w.heap.size + 1. -/
def MadeT (w : World) (a : Option Addr) (n c : Nat) (o0 o1 o2 o3 : Int) (b : Option Addr) (m d : Nat) (q : Int) (x : CallD) (sp ep : Addr) (s e : Int) (r : Nat) (cs : Array Value) (W : World) : Prop :=
  MadeS w w.heap.size a n c o0 o1 o2 o3 b m d q x sp ep s e W ∧ W.heap[r]? = some (.cells cs 73 (0, 0)) ∧ w.heap.size + 3 ≤ r ∧ sp.block < w.heap.size ∧ ep.block < w.heap.size
section
variable {w W : World} {a : Option Addr} {n c : Nat} {o0 o1 o2 o3 : Int} {b : Option Addr} {m d : Nat} {q : Int} {x : CallD} {sp ep : Addr} {s e : Int} {r : Nat} {cs : Array Value}
theorem MadeT.below {W' : World} (h : MadeT w a n c o0 o1 o2 o3 b m d q x sp ep s e r cs W) (k : Below W.heap.size W W') : MadeT w a n c o0 o1 o2 o3 b m d q x sp ep s e r cs W' :=
  ⟨h.1.below k, blk_keep k h.2.1, h.2.2⟩
theorem MadeT.set (h : MadeT w a n c o0 o1 o2 o3 b m d q x sp ep s e r cs W) (j : Nat) (v : Value) : MadeT w a n c o0 o1 o2 o3 b m d q x sp ep s e r (cs.setIfInBounds j v) (W.setCell ⟨r, j, none⟩ v) :=
  ⟨h.1.set rfl h.2.2.1 h.2.2.2.1 h.2.2.2.2, heap_setCell_same W r j cs 73 v h.2.1, h.2.2⟩
theorem MadeT.put (h : MadeT w a n c o0 o1 o2 o3 b m d q x sp ep s e r cs W) (j : Nat) (v : Value) (o : Obj) : MadeT w a n c o0 o1 o2 o3 b m d q x sp ep s e r (cs.setIfInBounds j v) ((W.setCell ⟨r, j, none⟩ v).alloc o) :=
  (h.set j v).below (below_alloc _ _)
theorem MadeT.cell (h : MadeT w a n c o0 o1 o2 o3 b m d q x sp ep s e r cs W) (j : Nat) {v : Value} (hv : cs[j]? = some v) : W.cell? ⟨r, j, none⟩ = some v ∧ W.frozen? ⟨r, j, none⟩ = false := ⟨cell_blk h.2.1 j hv, frozen_blk h.2.1 j⟩
theorem MadeT.sizes (h : MadeT w a n c o0 o1 o2 o3 b m d q x sp ep s e r cs W) : w.heap.size < W.heap.size ∧ w.heap.size + 1 < W.heap.size ∧ w.heap.size + 1 + 1 < W.heap.size ∧ r < W.heap.size := by
  have h1 := h.1.room
  have h2 := blk_lt h.2.1
  exact ⟨by omega, by omega, by omega, h2⟩
end
/-- What stands while the region of the span is on its way. -/
def MadeI (w : World) (ad : Addr) (n c : Nat) (o0 o1 o2 o3 : Int) (b : Option Addr) (m d : Nat) (q : Int) (x : CallD) (sp ep : Addr) (s e : Int) (i : Nat) (tid kd : Int) (A : Act) (L : Nat → Prop) (a : Act) (W : World) : Prop :=
  MadeS w w.heap.size (some ad) n c o0 o1 o2 o3 b m d q x sp ep s e W ∧ ∃ x26 x35 x46 x12 : Value, a = (((A.put (some 26) x26).put (some 35) x35).put (some 46) x46).put (some 12) x12 ∧
    (L 2 → x26 = .int .i64 tid) ∧ (L 11 → x35 = .int .i64 kd) ∧
    (L 22 → L 2 ∧ L 11 ∧ x46 = .agg #[x26, .int .i64 (IntKind.i64.wrap (i + 1)), .int .i64 0, .int .i64 0, .int .i64 (IntKind.i64.wrap (1 + IntKind.i64.wrap (x.k.tmod 4))), x35, .string ⟨#[]⟩, .string ⟨#[]⟩, .string ⟨#[]⟩, .int .i64 s, .int .i64 e, .bool x.e, .slice none 0 0, .slice none 0 0]) ∧
    (L 23 → ∃ r cs, x12 = .pointer (some ⟨r, 0, none⟩) ∧ w.heap.size + 3 ≤ r ∧ W.heap[r]? = some (.cells cs 73 (0, 0)) ∧ cs.size = 14 ∧ (L 24 → .agg cs = x46)) ∧
    (L 24 → L 22 ∧ L 23)

def CallD.par (x : CallD) (i : Nat) : Int := if x.p % ((i : Int) + 1) < i then x.p % ((i : Int) + 1) + 1 else if 0 < i then 100 else 0
def CallD.linksX (x : CallD) (tid : Int) (i : Nat) (ss : List Int) (s : Int) : List RefD := if (x.j % 16).toNat < i ∧ ss.getD (x.j % 16).toNat 0 ≤ s then [⟨tid, x.j % 16 + 1⟩] else []
/-- The span of a call, without addresses. -/
def madeX (tid : Int) (x : CallD) (i : Nat) (ss : List Int) (s e : Int) : SpanD := ⟨tid, i + 1, x.par i, 0, 1 + x.k % 4, kindX x, nth svcs (x.s % 4), nth vers (x.v % 3), nth opns (x.o % 3), s, e, x.e, none, attrX x.t.toNat, 0, none, x.linksX tid i ss s, 0⟩
/-- What made gives. -/
def MadeV (sp0 : SpanD) (w : World) (e : Ending) (w' : World) : Prop := ∃ sp : SpanD, e = .returned (.agg sp.cells.toArray) ∧ sp.bare = sp0 ∧ sp.Owned w.heap.size w'
theorem below_drewN0 (w : World) (n : Nat) : Below w.heap.size w (w.drewN n) := ⟨rfl, rfl, rfl, Nat.le_refl _, fun _ _ => rfl⟩
def NilOK (LA : Option Addr) (K : List RefD) : Prop := LA = none → K = []
theorem attrX_len (t : Nat) : (attrX t).length ≤ 3 := by unfold attrX attrAll; rw [List.length_take]; simp; omega
theorem made_end {w w' W8 : World} {r g : Nat} {L : List AttrD} {LA : Option Addr} {K : List RefD} {vs us : List Value} {sp sp0 : SpanD} (hat : AttrsAt w' (some ⟨g, 0, none⟩) L)
    (hlk : RefsAt w' LA K ∧ (∀ q, LA = some q → q.spot = none ∧ q.block ≠ r ∧ w.heap.size + 3 ≤ q.block ∧ q.block < w'.heap.size) ∧ NilOK LA K) (hbk : ∀ b, b ≠ r → W8.heap[b]? = w'.heap[b]?) (hsz : W8.heap.size = w'.heap.size)
    (hgr : r < g ∧ w.heap.size + 3 ≤ g) (hg2 : g < w'.heap.size) (e1 : sp.aA = some ⟨g, 0, none⟩) (e2 : sp.attrs = L) (e3 : sp.lA = LA) (e4 : sp.links = K) (e5 : vs = sp.cells) (hb : sp.bare = sp0 ∧ L.length ≤ 3 ∧ K.length ≤ 1) :
    MadeV sp0 w (.returned (.agg vs.toArray)) (W8.setCells (w.heap.size + 1) 0 us) := by
  have hs8 : W8.heap.size ≤ (W8.setCells (w.heap.size + 1) 0 us).heap.size := (below_setCells (base := 0) (w := W8) (w.heap.size + 1) (Nat.zero_le _) us 0 W8 (Below.refl _ _)).size
  have hk : ∀ b, b ≠ r → w.heap.size + 3 ≤ b → (W8.setCells (w.heap.size + 1) 0 us).heap[b]? = w'.heap[b]? := fun b h1 h2 => (heap_setCells_other _ _ _ _ _ (by omega)).trans (hbk b h1)
  refine ⟨sp, by rw [e5], hb.1, ⟨⟨?_, ?_, ?_, ?_⟩, ⟨?_, ?_, ?_, ?_⟩, ?_, ?_⟩⟩
  · rw [e1, e2]; exact hat.same fun p hp => by cases hp; exact hk g (by omega) hgr.2
  · rw [e3, e4]; exact hlk.1.same fun p hp => hk _ (hlk.2.1 p hp).2.1 (hlk.2.1 p hp).2.2.1
  · rw [e2]; omega
  · rw [e4]; omega
  · rw [e1]; intro h; cases h
  · rw [e1]; intro p hp _; cases hp; rfl
  · rw [e3, e4]; exact hlk.2.2
  · rw [e3]; exact fun p hp _ => (hlk.2.1 p hp).1
  · rw [e1]; intro p hp; cases hp; exact ⟨by show _ ≤ g; omega, by show g < _; omega⟩
  · rw [e3]; intro p hp; have := hlk.2.1 p hp; exact ⟨by omega, by omega⟩
set_option maxRecDepth 20000 in
set_option maxHeartbeats 8000000 in
theorem made_any (a : Option Addr) (ts : List TreeD) (c : Nat) (o0 o1 o2 o3 : Int) (b : Option Addr) (m d : Nat) (q : Int) (k i : Nat) (hk : k < ts.length) (hi : i < ts[k].cs.length) (hi8 : i < 8)
    (sA : Option Addr) (sc : Nat) (ss : List Int) (eA : Option Addr) (ec : Nat) (es : List Int) (w : World) (ht : TreesAt w a ts) (hs : IntsAt w sA ss) (he : IntsAt w eA es) (his : i < ss.length) (hie : i < es.length) (hcl : ∀ j (hj : j < ts.length), ts[j].cs.length ≤ maxLen) (hl : ts.length ≤ 1000) (hsl : ss.length ≤ maxLen) (hel : es.length ≤ maxLen) :
    Calls Tryz.prog 63 #[.agg #[.slice a ts.length c, .int .i8 o0, .int .i8 o1, .int .i8 o2, .int .i8 o3, .slice b m d, .int .u8 q], .int .i64 k, .int .i64 i, .slice sA ss.length sc, .slice eA es.length ec] w fun e w' => MadeV (madeX (tidX ts[k] k) ts[k].cs[i] i ss ss[i] es[i]) w e w' ∧ Below w.heap.size w w' := by
  unfold maxLen at hcl hsl hel
  obtain ⟨sp0, hsp0⟩ : ∃ sp0, sp0 = madeX (tidX ts[k] k) ts[k].cs[i] i ss ss[i] es[i] := ⟨_, rfl⟩
  rw [← hsp0]
  have hcl := hcl k hk
  have HT := Lib.hid ht
  have HS := Lib.hid hs
  have HE := Lib.hid he
  have hb0 := (below_alloc w (.cells #[.slice a ts.length c, .int .i8 o0, .int .i8 o1, .int .i8 o2, .int .i8 o3, .slice b m d, .int .u8 q] 52)).alloc (by simp) (.cells cells89 73)
  unfold cells89 at hb0
  obtain ⟨ad, rfl, t0, t1, t2, htc, _, _⟩ := ht.below hb0 k hk
  obtain ⟨cad, hcad, ⟨c0, c1, c2, c3, c4, c5, c6, c7, c8, c9, c10⟩, hok⟩ := htc i hi
  obtain ⟨sad, rfl, s0⟩ := hs i his
  obtain ⟨ead, rfl, e0⟩ := he i hie
  rw [hcad] at t2
  clear hcad
  have hb1 := hb0.alloc (by simp; omega) (.cells #[.int .u8 ts[k].cs[i].p, .int .u8 ts[k].cs[i].k, .int .u8 ts[k].cs[i].n, .int .u8 ts[k].cs[i].s, .int .u8 ts[k].cs[i].v, .int .u8 ts[k].cs[i].o, .int .u8 ts[k].cs[i].w, .int .u8 ts[k].cs[i].l, .int .u8 ts[k].cs[i].j, .int .u8 ts[k].cs[i].t, .bool ts[k].cs[i].e] 155)
  have HM := Lib.hid (MadeS.mk (w := w) (g := w.heap.size) (a := some ad) (n := ts.length) (c := c) (o0 := o0) (o1 := o1) (o2 := o2) (o3 := o3) (b := b) (m := m) (d := d) (q := q) (x := ts[k].cs[i])
    (heap_alloc_old (heap_alloc_old (heap_alloc_last _ _))) (by rw [show w.heap.size + 1 + 1 = ((w.alloc (.cells #[.slice (some ad) ts.length c, .int .i8 o0, .int .i8 o1, .int .i8 o2, .int .i8 o3, .slice b m d, .int .u8 q] 52)).alloc (.cells cells89 73)).heap.size by simp]; exact heap_alloc_last _ _)
    ((hb1.cell (World.block_lt_of_cell? w _ s0)).trans s0) ((hb1.cell (World.block_lt_of_cell? w _ e0)).trans e0) hb1 (heap_alloc_old (by rw [show w.heap.size + 1 = (w.alloc (.cells #[.slice (some ad) ts.length c, .int .i8 o0, .int .i8 o1, .int .i8 o2, .int .i8 o3, .slice b m d, .int .u8 q] 52)).heap.size by simp]; exact heap_alloc_last _ _)))
  have hsp := World.block_lt_of_cell? w _ s0
  have hep := World.block_lt_of_cell? w _ e0
  clear ht hs he htc t0 t1 hb0 hb1 s0 e0
  have HOK := Lib.hid hok
  clear hok
  go_enter Tryz.func63, Tryz.ntmps63
  have HTid := Lib.hid (fun W (h : TreesAt W (some ad) ts) => traceId_any (some ad) ts c o0 o1 o2 o3 b m d q k hk hl W h)
  go_wp2_with fail
  generalize tidX ts[k] k = tid at *
  generalize ts[k].cs[i] = x at *
  generalize ss[i] = s1 at *
  generalize es[i] = e1 at *
  have HSP := Lib.hid hsp0
  clear hsp0
  have i0 : (0 : Int) ≤ (i : Int) := by omega
  have i1 : (i : Int) < (ss.length : Int) := by omega
  have i2 : (i : Int) < (es.length : Int) := by omega
  refine wp_region_held_drew (S := (fun W => MadeS w w.heap.size (some ad) ts.length c o0 o1 o2 o3 b m d q x (sad.add i) (ead.add i) s1 e1 W)) (by kernel_rfl) (MadeS.below HM.out (below_drew _)) (fun hHeld => ?_)
  refine take_at (i := 0) (v := ?_) rfl (by kernel_rfl) (by kernel_rfl) (by kernel_rfl) (fun _ _ _ h => h) (Or.inl ⟨by rfl, ?_⟩) hHeld ?_
  rotate_left
  · intro W hSw; (try dsimp only at hSw); unfold MadeS at hSw; go_simp; try with_reducible rfl
  try simp only [Act.put, List.setIfInBounds_toArray, List.set_cons_zero, List.set_cons_succ]
  refine take_at (i := 1) (v := ?_) rfl (by kernel_rfl) (by kernel_rfl) (by kernel_rfl) (fun _ _ _ h => h) (Or.inl ⟨by rfl, ?_⟩) hHeld ?_
  rotate_left
  · intro W hSw; (try dsimp only at hSw); unfold MadeS at hSw; go_simp; try with_reducible rfl
  try simp only [Act.put, List.setIfInBounds_toArray, List.set_cons_zero, List.set_cons_succ]
  refine take_at (i := 3) (v := ?_) rfl (by kernel_rfl) (by kernel_rfl) (by kernel_rfl) (fun _ _ _ h => h) (Or.inl ⟨by rfl, ?_⟩) hHeld ?_
  rotate_left
  · intro W hSw; (try dsimp only at hSw); unfold MadeS at hSw; go_simp; try with_reducible rfl
  try simp only [Act.put, List.setIfInBounds_toArray, List.set_cons_zero, List.set_cons_succ]
  refine take_at (i := 4) (v := ?_) rfl (by kernel_rfl) (by kernel_rfl) (by kernel_rfl) (fun _ _ _ h => h) (Or.inl ⟨by rfl, ?_⟩) hHeld ?_
  rotate_left
  · intro W hSw; (try dsimp only at hSw); unfold MadeS at hSw; go_simp; try with_reducible rfl
  try simp only [Act.put, List.setIfInBounds_toArray, List.set_cons_zero, List.set_cons_succ]
  refine take_at (i := 5) (v := ?_) rfl (by kernel_rfl) (by kernel_rfl) (by kernel_rfl) (fun _ _ _ h => h) (Or.inl ⟨by rfl, ?_⟩) hHeld ?_
  rotate_left
  · intro W hSw; (try dsimp only at hSw); unfold MadeS at hSw; go_simp; try with_reducible rfl
  try simp only [Act.put, List.setIfInBounds_toArray, List.set_cons_zero, List.set_cons_succ]
  refine take_at (i := 6) (v := ?_) rfl (by kernel_rfl) (by kernel_rfl) (by kernel_rfl) (fun _ _ _ h => h) (Or.inl ⟨by rfl, ?_⟩) hHeld ?_
  rotate_left
  · intro W hSw; (try dsimp only at hSw); unfold MadeS at hSw; go_simp; try with_reducible rfl
  try simp only [Act.put, List.setIfInBounds_toArray, List.set_cons_zero, List.set_cons_succ]
  refine take_at (i := 7) (v := ?_) rfl (by kernel_rfl) (by kernel_rfl) (by kernel_rfl) (fun _ _ _ h => h) (Or.inl ⟨by rfl, ?_⟩) hHeld ?_
  rotate_left
  · intro W hSw; (try dsimp only at hSw); unfold MadeS at hSw; go_simp; try with_reducible rfl
  try simp only [Act.put, List.setIfInBounds_toArray, List.set_cons_zero, List.set_cons_succ]
  refine take_at (i := 8) (v := ?_) rfl (by kernel_rfl) (by kernel_rfl) (by kernel_rfl) (fun _ _ _ h => h) (Or.inl ⟨by rfl, ?_⟩) hHeld ?_
  rotate_left
  · intro W hSw; (try dsimp only at hSw); unfold MadeS at hSw; go_simp; try with_reducible rfl
  try simp only [Act.put, List.setIfInBounds_toArray, List.set_cons_zero, List.set_cons_succ]
  refine take_at (i := 9) (v := ?_) rfl (by kernel_rfl) (by kernel_rfl) (by kernel_rfl) (fun _ _ _ h => h) (Or.inl ⟨by rfl, ?_⟩) hHeld ?_
  rotate_left
  · intro W hSw; (try dsimp only at hSw); unfold MadeS at hSw; go_simp; try with_reducible rfl
  try simp only [Act.put, List.setIfInBounds_toArray, List.set_cons_zero, List.set_cons_succ]
  refine take_at (i := 10) (v := ?_) rfl (by kernel_rfl) (by kernel_rfl) (by kernel_rfl) (fun _ _ _ h => h) (Or.inl ⟨by rfl, ?_⟩) hHeld ?_
  rotate_left
  · intro W hSw; (try dsimp only at hSw); unfold MadeS at hSw; go_simp; try with_reducible rfl
  try simp only [Act.put, List.setIfInBounds_toArray, List.set_cons_zero, List.set_cons_succ]
  refine take_at (i := 12) (v := ?_) rfl (by kernel_rfl) (by kernel_rfl) (by kernel_rfl) (fun _ _ _ h => h) (Or.inl ⟨by rfl, ?_⟩) hHeld ?_
  rotate_left
  · intro W hSw; (try dsimp only at hSw); unfold MadeS at hSw; go_simp; try with_reducible rfl
  try simp only [Act.put, List.setIfInBounds_toArray, List.set_cons_zero, List.set_cons_succ]
  refine take_at (i := 13) (v := ?_) rfl (by kernel_rfl) (by kernel_rfl) (by kernel_rfl) (fun _ _ _ h => h) (Or.inl ⟨by rfl, ?_⟩) hHeld ?_
  rotate_left
  · intro W hSw; (try dsimp only at hSw); unfold MadeS at hSw; go_simp; try with_reducible rfl
  try simp only [Act.put, List.setIfInBounds_toArray, List.set_cons_zero, List.set_cons_succ]
  refine take_at (i := 14) (v := ?_) rfl (by kernel_rfl) (by kernel_rfl) (by kernel_rfl) (fun _ _ _ h => h) (Or.inl ⟨by rfl, ?_⟩) hHeld ?_
  rotate_left
  · intro W hSw; (try dsimp only at hSw); unfold MadeS at hSw; go_simp; try with_reducible rfl
  try simp only [Act.put, List.setIfInBounds_toArray, List.set_cons_zero, List.set_cons_succ]
  refine take_at (i := 15) (v := ?_) rfl (by kernel_rfl) (by kernel_rfl) (by kernel_rfl) (fun _ _ _ h => h) (Or.inl ⟨by rfl, ?_⟩) hHeld ?_
  rotate_left
  · intro W hSw; (try dsimp only at hSw); unfold MadeS at hSw; go_simp; try with_reducible rfl
  try simp only [Act.put, List.setIfInBounds_toArray, List.set_cons_zero, List.set_cons_succ]
  refine take_at (i := 16) (v := ?_) rfl (by kernel_rfl) (by kernel_rfl) (by kernel_rfl) (fun _ _ _ h => h) (Or.inl ⟨by rfl, ?_⟩) hHeld ?_
  rotate_left
  · intro W hSw; (try dsimp only at hSw); unfold MadeS at hSw; go_simp; try with_reducible rfl
  try simp only [Act.put, List.setIfInBounds_toArray, List.set_cons_zero, List.set_cons_succ]
  refine take_at (i := 17) (v := ?_) rfl (by kernel_rfl) (by kernel_rfl) (by kernel_rfl) (fun _ _ _ h => h) (Or.inl ⟨by rfl, ?_⟩) hHeld ?_
  rotate_left
  · intro W hSw; (try dsimp only at hSw); unfold MadeS at hSw; go_simp; try with_reducible rfl
  try simp only [Act.put, List.setIfInBounds_toArray, List.set_cons_zero, List.set_cons_succ]
  refine take_at (i := 18) (v := ?_) rfl (by kernel_rfl) (by kernel_rfl) (by kernel_rfl) (fun _ _ _ h => h) (Or.inl ⟨by rfl, ?_⟩) hHeld ?_
  rotate_left
  · intro W hSw; (try dsimp only at hSw); unfold MadeS at hSw; go_simp; try with_reducible rfl
  try simp only [Act.put, List.setIfInBounds_toArray, List.set_cons_zero, List.set_cons_succ]
  refine take_at (i := 19) (v := ?_) rfl (by kernel_rfl) (by kernel_rfl) (by kernel_rfl) (fun _ _ _ h => h) (Or.inl ⟨by rfl, ?_⟩) hHeld ?_
  rotate_left
  · intro W hSw; (try dsimp only at hSw); unfold MadeS at hSw; go_simp; try with_reducible rfl
  try simp only [Act.put, List.setIfInBounds_toArray, List.set_cons_zero, List.set_cons_succ]
  refine take_at (i := 20) (v := ?_) rfl (by kernel_rfl) (by kernel_rfl) (by kernel_rfl) (fun _ _ _ h => h) (Or.inl ⟨by rfl, ?_⟩) hHeld ?_
  rotate_left
  · intro W hSw; (try dsimp only at hSw); unfold MadeS at hSw; go_simp; try with_reducible rfl
  try simp only [Act.put, List.setIfInBounds_toArray, List.set_cons_zero, List.set_cons_succ]
  refine take_at (i := 21) (v := ?_) rfl (by kernel_rfl) (by kernel_rfl) (by kernel_rfl) (fun _ _ _ h => h) (Or.inl ⟨by rfl, ?_⟩) hHeld ?_
  rotate_left
  · intro W hSw; (try dsimp only at hSw); unfold MadeS at hSw; go_simp; try with_reducible rfl
  try simp only [Act.put, List.setIfInBounds_toArray, List.set_cons_zero, List.set_cons_succ]
  refine wpAnyH_rest [2, 11, 22, 23, 24] (MadeI w ad ts.length c o0 o1 o2 o3 b m d q x (sad.add i) (ead.add i) s1 e1 i tid (kindX x)) (by kernel_rfl) rfl (by kernel_rfl) (by kernel_rfl) (by kernel_rfl) ?_ (fun _ _ _ h => h.1) ?_ ?_
  · intro L hL
    refine ⟨hHeld, undef, undef, undef, undef, ?_, fun h => absurd h (hL 2 (by simp)), fun h => absurd h (hL 11 (by simp)), fun h => absurd h (hL 22 (by simp)), fun h => absurd h (hL 23 (by simp)), fun h => absurd h (hL 24 (by simp))⟩
    simp only [Act.put, List.setIfInBounds_toArray, List.set_cons_zero, List.set_cons_succ]
  · intro i0 hi0
    simp only [List.mem_cons, List.not_mem_nil, or_false] at hi0
    rcases hi0 with rfl | rfl | rfl | rfl | rfl
    · intro L A W o hI ho hn hd
      obtain rfl := Option.some.inj (show some _ = some o from nth_of ho)
      obtain ⟨hS, x26, x35, x46, x12, rfl, h2, h11, h22, h23, h24⟩ := hI
      simp only [Act.put, List.setIfInBounds_toArray, List.set_cons_zero, List.set_cons_succ]
      refine wpOp_step (nth_at rfl) (fun K hK => ?_)
      rw [if_pos (by rfl)]
      go_simp
      (with_reducible refine (HTid.out _ ?tr).mono ?_)
      case tr => exact HT.out.below hS.beh
      rintro e w' ⟨rfl, hbb⟩
      refine hK _ _ ⟨hS.below hbb, .int .i64 tid, x35, x46, x12, ?_, fun _ => rfl, fun h => h11 (h.resolve_right (by decide)), fun h => absurd (h22 (h.resolve_right (by decide))).1 hn, fun h => ?_, fun h => absurd (h22 (h24 (h.resolve_right (by decide))).1).1 hn⟩
      · simp only [Act.put, List.setIfInBounds_toArray, List.set_cons_zero, List.set_cons_succ]
      · obtain ⟨r, cs, e1, e2, e3, e4, e5⟩ := h23 (h.resolve_right (by decide))
        exact ⟨r, cs, e1, e2, blk_keep hbb e3, e4, fun h => absurd (h22 (h24 (h.resolve_right (by decide))).1).1 hn⟩
    · intro L A W o hI ho hn hd
      obtain rfl := Option.some.inj (show some _ = some o from nth_of ho)
      obtain ⟨hS, x26, x35, x46, x12, rfl, h2, h11, h22, h23, h24⟩ := hI
      simp only [Act.put, List.setIfInBounds_toArray, List.set_cons_zero, List.set_cons_succ]
      refine wpOp_step (nth_at rfl) (fun K hK => ?_)
      rw [if_pos (by rfl)]
      go_simp
      (with_reducible refine (kind_any _ HOK.out _).mono ?_)
      rintro e w' ⟨rfl, hbb⟩
      refine hK _ _ ⟨hS.below hbb, x26, .int .i64 (kindX x), x46, x12, ?_, fun h => h2 (h.resolve_right (by decide)), fun _ => rfl, fun h => absurd (h22 (h.resolve_right (by decide))).2.1 hn, fun h => ?_, fun h => absurd (h22 (h24 (h.resolve_right (by decide))).1).2.1 hn⟩
      · simp only [Act.put, List.setIfInBounds_toArray, List.set_cons_zero, List.set_cons_succ]
      · obtain ⟨r, cs, e1, e2, e3, e4, e5⟩ := h23 (h.resolve_right (by decide))
        exact ⟨r, cs, e1, e2, blk_keep hbb e3, e4, fun h => absurd (h22 (h24 (h.resolve_right (by decide))).1).2.1 hn⟩
    · intro L A W o hI ho hn hd
      obtain rfl := Option.some.inj (show some _ = some o from nth_of ho)
      obtain ⟨hS, x26, x35, x46, x12, rfl, h2, h11, h22, h23, h24⟩ := hI
      simp only [Act.put, List.setIfInBounds_toArray, List.set_cons_zero, List.set_cons_succ]
      refine wpOp_step (nth_at rfl) (fun K hK => ?_)
      rw [if_pos (by rfl)]
      have l2 : L 2 := hd { on := 2, ground := Ground.data } (by simp) rfl (by simp)
      have l11 : L 11 := hd { on := 11, ground := Ground.data } (by simp) rfl (by simp)
      obtain rfl := h2 l2
      obtain rfl := h11 l11
      go_simp
      refine hK _ _ ⟨hS, .int .i64 tid, .int .i64 (kindX x), _, x12, ?_, fun _ => rfl, fun _ => rfl, fun _ => ⟨.inl l2, .inl l11, rfl⟩, fun h => ?_, fun h => absurd (h24 (h.resolve_right (by decide))).1 hn⟩
      · simp only [Act.put, List.setIfInBounds_toArray, List.set_cons_zero, List.set_cons_succ]
      · obtain ⟨r, cs, e1, e2, e3, e4, e5⟩ := h23 (h.resolve_right (by decide))
        exact ⟨r, cs, e1, e2, e3, e4, fun h => absurd (h24 (h.resolve_right (by decide))).1 hn⟩
    · intro L A W o hI ho hn hd
      obtain rfl := Option.some.inj (show some _ = some o from nth_of ho)
      obtain ⟨hS, x26, x35, x46, x12, rfl, h2, h11, h22, h23, h24⟩ := hI
      simp only [Act.put, List.setIfInBounds_toArray, List.set_cons_zero, List.set_cons_succ]
      refine wpOp_step (nth_at rfl) (fun K hK => ?_)
      rw [if_pos (by rfl)]
      go_simp
      refine hK _ _ ⟨hS.below (below_alloc _ _), x26, x35, x46, .pointer (some ⟨W.heap.size, 0, none⟩), ?_, fun h => h2 (h.resolve_right (by decide)), fun h => h11 (h.resolve_right (by decide)), fun h => (h22 (h.resolve_right (by decide))).imp .inl (And.imp_left .inl), fun _ => ⟨W.heap.size, _, rfl, hS.room, heap_alloc_last _ _, rfl, fun h => absurd (h24 (h.resolve_right (by decide))).2 hn⟩, fun h => absurd (h24 (h.resolve_right (by decide))).2 hn⟩
      · simp only [Act.put, List.setIfInBounds_toArray, List.set_cons_zero, List.set_cons_succ]
    · intro L A W o hI ho hn hd
      obtain rfl := Option.some.inj (show some _ = some o from nth_of ho)
      obtain ⟨hS, x26, x35, x46, x12, rfl, h2, h11, h22, h23, h24⟩ := hI
      simp only [Act.put, List.setIfInBounds_toArray, List.set_cons_zero, List.set_cons_succ]
      refine wpOp_step (nth_at rfl) (fun K hK => ?_)
      rw [if_pos (by rfl)]
      have l22 : L 22 := hd { on := 22, ground := Ground.data } (by simp) rfl (by simp)
      have l23 : L 23 := hd { on := 23, ground := Ground.data } (by simp) rfl (by simp)
      obtain ⟨l2, l11, rfl⟩ := h22 l22
      obtain rfl := h2 l2
      obtain rfl := h11 l11
      obtain ⟨r, cs, rfl, e2, e3, e4, e5⟩ := h23 l23
      refine wp_store_mid 73 (.tmp 12) (.tmp 46) rfl r 0 _ rfl rfl (there_blk e3 (by rw [e4]; rfl)) (by kernel_rfl) (by simp [Value.oneCell']) ?_
      refine hK _ _ ⟨MadeS.cells rfl e2 hsp hep _ 0 W hS, .int .i64 tid, .int .i64 (kindX x), _, .pointer (some ⟨r, 0, none⟩), ?_, fun _ => rfl, fun _ => rfl, fun _ => ⟨.inl l2, .inl l11, rfl⟩, fun _ => ⟨r, _, rfl, e2, blk_setCells r 73 _ 0 W cs e3 (by rw [e4]; rfl), rfl, fun _ => rfl⟩, fun _ => ⟨.inl l22, .inl l23⟩⟩
      simp only [Act.put, List.setIfInBounds_toArray, List.set_cons_zero, List.set_cons_succ]
  · intro L A W hI ha
    obtain ⟨hS, x26, x35, x46, x12, rfl, h2, h11, h22, h23, h24⟩ := hI
    obtain ⟨_, _, rfl⟩ := h22 (ha 22 (by simp))
    obtain rfl := h2 (ha 2 (by simp))
    obtain rfl := h11 (ha 11 (by simp))
    obtain ⟨r, cs, rfl, e2, e3, e4, e5⟩ := h23 (ha 23 (by simp))
    obtain rfl := Value.agg.inj (e5 (ha 24 (by simp)))
    clear h2 h11 h22 h23 h24 ha e4 e5 hHeld
    simp only [Act.put, List.setIfInBounds_toArray, List.set_cons_zero, List.set_cons_succ]
    have HT1 : Hid (MadeT _ _ _ _ _ _ _ _ _ _ _ _ _ _ _ _ _ r _ W) := Lib.hid ⟨hS, e3, e2, hsp, hep⟩
    clear hS e3 e2 HM
    have s0 := Int.tmod_nonneg 4 (show 0 ≤ x.s from HOK.out.2.2.2.1.1)
    have s4 := Int.tmod_lt_of_pos x.s (show (0 : Int) < 4 by decide)
    have v0 := Int.tmod_nonneg 3 (show 0 ≤ x.v from HOK.out.2.2.2.2.1.1)
    have v3 := Int.tmod_lt_of_pos x.v (show (0 : Int) < 3 by decide)
    have p0 := Int.tmod_nonneg 3 (show 0 ≤ x.o from HOK.out.2.2.2.2.2.1.1)
    have p3 := Int.tmod_lt_of_pos x.o (show (0 : Int) < 3 by decide)
    have hsg := svc_get x.s s0 s4
    have hvg := ver_get x.v v0 v3
    have hog := opn_get x.o p0 p3
    obtain ⟨z0, z1, z2, z3⟩ := HT1.out.sizes
    have y1 := HT1.out.1.2.1.2.2.2.1
    obtain ⟨y2, y3⟩ := HT1.out.cell 6 rfl
    go_upto_region 4 with (fail)
    have HT2 := Lib.hid (HT1.out.put 6 (.string (nth svcs (x.s.tmod 4))) (.cells #[.string ⟨#[97, 112, 105]⟩, .string ⟨#[100, 98]⟩, .string ⟨#[119, 101, 98]⟩, .string ⟨#[99, 97, 99, 104, 101]⟩] 9))
    clear y1 y2 y3 z0 z1 z2 z3 hsg
    generalize (W.setCell ⟨r, 6, none⟩ (.string (nth svcs (x.s.tmod 4)))).alloc (.cells #[.string ⟨#[97, 112, 105]⟩, .string ⟨#[100, 98]⟩, .string ⟨#[119, 101, 98]⟩, .string ⟨#[99, 97, 99, 104, 101]⟩] 9) = W2 at HT2 ⊢
    clear HT1
    obtain ⟨z0, z1, z2, z3⟩ := HT2.out.sizes
    have y1 := HT2.out.1.2.1.2.2.2.2.1
    obtain ⟨y2, y3⟩ := HT2.out.cell 7 rfl
    go_upto_region 5 with (fail)
    have HT3 := Lib.hid (HT2.out.put 7 (.string (nth vers (x.v.tmod 3))) (.cells #[.string ⟨#[118, 49]⟩, .string ⟨#[118, 50]⟩, .string ⟨#[]⟩] 9))
    clear y1 y2 y3 z0 z1 z2 z3 hvg
    generalize (W2.setCell ⟨r, 7, none⟩ (.string (nth vers (x.v.tmod 3)))).alloc (.cells #[.string ⟨#[118, 49]⟩, .string ⟨#[118, 50]⟩, .string ⟨#[]⟩] 9) = W3 at HT3 ⊢
    clear HT2
    obtain ⟨z0, z1, z2, z3⟩ := HT3.out.sizes
    have y1 := HT3.out.1.2.1.2.2.2.2.2.1
    obtain ⟨y2, y3⟩ := HT3.out.cell 8 rfl
    go_upto_region 6 with (fail)
    have HT4 := Lib.hid (HT3.out.put 8 (.string (nth opns (x.o.tmod 3))) (.cells #[.string ⟨#[103, 101, 116]⟩, .string ⟨#[112, 117, 116]⟩, .string ⟨#[108, 105, 115, 116]⟩] 9))
    clear y1 y2 y3 z0 z1 z2 z3 hog
    generalize (W3.setCell ⟨r, 8, none⟩ (.string (nth opns (x.o.tmod 3)))).alloc (.cells #[.string ⟨#[103, 101, 116]⟩, .string ⟨#[112, 117, 116]⟩, .string ⟨#[108, 105, 115, 116]⟩] 9) = W4 at HT4 ⊢
    clear HT3
    obtain ⟨z0, z1, z2, z3⟩ := HT4.out.sizes
    have y1 := HT4.out.1.2.1.1
    obtain ⟨y2, y3⟩ := HT4.out.cell 2 rfl
    obtain ⟨hu0, hu1⟩ : 0 ≤ x.p ∧ x.p < 256 := HOK.out.1
    obtain ⟨hv0, hv1⟩ : 0 ≤ x.j ∧ x.j < 256 := HOK.out.2.2.2.2.2.2.2.2.1
    have p0 := Int.emod_nonneg x.p (show (i : Int) + 1 ≠ 0 by omega)
    have p1 := Int.emod_lt_of_pos x.p (show (0 : Int) < (i : Int) + 1 by omega)
    obtain ⟨pn, hP⟩ : ∃ pn : Nat, x.p % ((i : Int) + 1) = (pn : Int) := ⟨(x.p % ((i : Int) + 1)).toNat, (Int.toNat_of_nonneg p0).symm⟩
    rw [hP] at p0 p1
    have j0 := Int.emod_nonneg x.j (show (16 : Int) ≠ 0 by decide)
    have j1 := Int.emod_lt_of_pos x.j (show (0 : Int) < 16 by decide)
    obtain ⟨jn, hJ⟩ : ∃ jn : Nat, x.j % 16 = (jn : Int) := ⟨(x.j % 16).toNat, (Int.toNat_of_nonneg j0).symm⟩
    rw [hJ] at j0 j1
    have hw1 : Hid (IntKind.i64.wrap ((i : Int) + 1) = i + 1) := Lib.hid (by simp [IntKind.wrap, IntKind.bits, IntKind.signed]; omega)
    have hw2 : Hid (IntKind.i64.wrap (1 + IntKind.i64.wrap (x.k.tmod 4)) = 1 + x.k % 4) := Lib.hid (by
      have h1 := HOK.out.2.1
      unfold isU8 at h1
      rw [Int.tmod_eq_emod_of_nonneg h1.1]
      simp [IntKind.wrap, IntKind.bits, IntKind.signed]
      omega)
    have hm1 : Hid (x.s.tmod 4 = x.s % 4) := Lib.hid (Int.tmod_eq_emod_of_nonneg HOK.out.2.2.2.1.1)
    have hm2 : Hid (x.v.tmod 3 = x.v % 3) := Lib.hid (Int.tmod_eq_emod_of_nonneg HOK.out.2.2.2.2.1.1)
    have hm3 : Hid (x.o.tmod 3 = x.o % 3) := Lib.hid (Int.tmod_eq_emod_of_nonneg HOK.out.2.2.2.2.2.1.1)
    by_cases hpi : pn < i
    · have q1 : (pn : Int) < (i : Int) := by omega
      have hpar : Hid (x.par i = pn + 1) := Lib.hid (by unfold CallD.par; rw [hP, if_pos q1])
      go_upto_region 11 with (fail)
      have HT5 := Lib.hid (HT4.out.set 2 (.int .i64 ((pn : Int) + 1)))
      generalize W4.setCell ⟨r, 2, none⟩ (.int .i64 ((pn : Int) + 1)) = W5 at HT5 ⊢
      clear HT4 y1 y2 y3 z0 z1 z2 z3
      by_cases hji : jn < i
      · have hd1 : decide ((jn : Int) < (i : Int)) = true := decide_eq_true (by omega)
        have b1 : (0 : Int) ≤ (jn : Int) := by omega
        have b2 : (jn : Int) < (ss.length : Int) := by omega
        obtain ⟨z0, z1, z2, z3⟩ := HT5.out.sizes
        have y1 := HT5.out.1.2.1.2.2.2.2.2.2.2.2.1
        have y4 := HT5.out.1.2.2.1
        obtain ⟨sad', hsa, y5⟩ := HS.out jn (by omega)
        obtain rfl := Option.some.inj hsa
        have y6 := (HT5.out.1.beh.cell (World.block_lt_of_cell? w _ y5)).trans y5
        clear hsa y5
        have hgd : ss.getD jn 0 = ss[jn] := by simp [List.getD, show jn < ss.length by omega]
        generalize ss[jn] = sj at *
        by_cases hle : sj ≤ s1
        · have dle : decide (sj ≤ s1) = true := decide_eq_true hle
          have hL : Hid (x.linksX tid i ss s1 = [⟨tid, (jn : Int) + 1⟩]) := Lib.hid (by unfold CallD.linksX; rw [hJ, Int.toNat_natCast, hgd, if_pos ⟨hji, hle⟩])
          go_upto_region 12 with (fail)
          go_quiet (fail)
          have HT6 := Lib.hid (HT5.out.below (below_drewN0 _ nq))
          clear y1 y4 y6 z0 z1 z2 z3
          generalize W5.drewN nq = W6 at HT6 ⊢
          clear HT5
          obtain ⟨z0, z1, z2, z3⟩ := HT6.out.sizes
          obtain ⟨y0, _⟩ := HT6.out.cell 0 rfl
          obtain ⟨y2, y3⟩ := HT6.out.cell 13 rfl
          obtain ⟨c0, c1, c2, c3, c4, c5, c6, c7, c8, c9, c10⟩ := HT6.out.1.2.1
          go_wp2_with fail
          (with_reducible refine (attrs_any x HOK.out _).mono ?_)
          rintro e w' ⟨⟨g, rfl, hat, hg1, hg2⟩, hbb⟩
          have hgr : r < g ∧ w.heap.size + 3 ≤ g := by
            have h1 := HT6.out.sizes.2.2.2
            have h2 := HT6.out.1.room
            try simp at hg1
            omega
          clear y0 y2 y3 z0 z1 z2 z3 c0 c1 c2 c3 c4 c5 c6 c7 c8 c9 c10
          have hlk : RefsAt w' (some ⟨W6.heap.size, 0, none⟩) [⟨tid, (jn : Int) + 1⟩] ∧ (∀ q, (some ⟨W6.heap.size, 0, none⟩ : Option Addr) = some q → q.spot = none ∧ q.block ≠ r ∧ w.heap.size + 3 ≤ q.block ∧ q.block < w'.heap.size) ∧ NilOK (some ⟨W6.heap.size, 0, none⟩) [RefD.mk tid ((jn : Int) + 1)] := by
            have h0 := blk_keep hbb (show ((W6.setCell ⟨r, 13, none⟩ (.slice (some ⟨W6.heap.size, 0, none⟩) 1 1)).alloc (.cells #[.int .i64 tid, .int .i64 ((jn : Int) + 1)] 113)).heap[W6.heap.size]? = some (Obj.cells #[.int .i64 tid, .int .i64 ((jn : Int) + 1)] 113 (0, 0)) from by have := heap_alloc_last (W6.setCell ⟨r, 13, none⟩ (.slice (some ⟨W6.heap.size, 0, none⟩) 1 1)) (.cells #[.int .i64 tid, .int .i64 ((jn : Int) + 1)] 113); simpa using this)
            have hr := HT6.out.1.room
            have hr2 := HT6.out.sizes.2.2.2
            refine ⟨fun j hj => ?_, fun q hq => ?_, fun h => by cases h⟩
            · obtain rfl : j = 0 := by simpa using hj
              refine ⟨_, rfl, ?_⟩
              rw [Addr.add_mid]
              exact ⟨cell_blk h0 _ rfl, cell_blk h0 _ rfl⟩
            · cases hq
              have h3 := blk_lt h0
              exact ⟨rfl, by show W6.heap.size ≠ r; omega, by show _ ≤ W6.heap.size; omega, h3⟩
          have HT7 := Lib.hid ((HT6.out.put 13 (.slice (some ⟨W6.heap.size, 0, none⟩) 1 1) _).below hbb)
          clear HT6
          have hat := Lib.hid hat
          have hlk := Lib.hid hlk
          obtain ⟨y2, y3⟩ := HT7.out.cell 12 rfl
          obtain ⟨_, _, _, z3⟩ := HT7.out.sizes
          go_upto_region 15 with (fail)
          have HT8 := Lib.hid (HT7.out.set 12 (.slice (some ⟨g, 0, none⟩) (attrX x.t.toNat).length 3))
          have hbk : ∀ b, b ≠ r → (w'.setCell ⟨r, 12, none⟩ (.slice (some ⟨g, 0, none⟩) (attrX x.t.toNat).length 3)).heap[b]? = w'.heap[b]? := fun b hb => heap_setCell_other _ _ _ _ (fun e => hb e)
          have hsz8 : (w'.setCell ⟨r, 12, none⟩ (.slice (some ⟨g, 0, none⟩) (attrX x.t.toNat).length 3)).heap.size = w'.heap.size := by simp
          clear HT7 y2 y3
          generalize w'.setCell ⟨r, 12, none⟩ (.slice (some ⟨g, 0, none⟩) (attrX x.t.toNat).length 3) = W8 at *
          have hblk := HT8.out.2.1
          have hres := HT8.out.1.2.2.2.2.2
          have hbel := HT8.out.1.beh
          clear HT8
          simp only [List.setIfInBounds_toArray, List.set_cons_zero, List.set_cons_succ] at hblk
          refine wp_region_lit ?_
          refine wpList_load_row rfl 73 (.tmp 12) rfl r rfl 73 _ (0, 0) _ hblk Tryz.underlying73 rfl (by kernel_rfl) ?_
          refine wpList_store_mid rfl 73 (.tmp 10) (.tmp 111) rfl (w.heap.size + 1) 0 _ rfl rfl (there_blk hres rfl) (by kernel_rfl) (by simp [Value.oneCell']) ?_
          refine k_run (by assumption) ?_
          apply wp_ret
          refine ret_row hres rfl rfl ?_ Tryz.underlying73 rfl ?_ rfl ⟨?_, below_setCells (w.heap.size + 1) (by omega) _ 0 _ hbel⟩
          · rfl
          · kernel_rfl
          · refine made_end (sp := ⟨tid, IntKind.i64.wrap ((i : Int) + 1), (pn : Int) + 1, 0, IntKind.i64.wrap (1 + IntKind.i64.wrap (x.k.tmod 4)), kindX x, nth svcs (x.s.tmod 4), nth vers (x.v.tmod 3), nth opns (x.o.tmod 3), s1, e1, x.e, some ⟨g, 0, none⟩, attrX x.t.toNat, 3, some ⟨W6.heap.size, 0, none⟩, [⟨tid, (jn : Int) + 1⟩], 1⟩) hat.out hlk.out hbk hsz8 hgr hg2 rfl rfl rfl rfl rfl ⟨?_, attrX_len _, by simp⟩
            rw [HSP.out]
            simp only [SpanD.bare, SpanD.moved, madeX, hw1.out, hw2.out, hm1.out, hm2.out, hm3.out, hpar.out, hL.out]
        · have dle : decide (sj ≤ s1) = false := decide_eq_false hle
          have hL : Hid (x.linksX tid i ss s1 = []) := Lib.hid (by unfold CallD.linksX; rw [hJ, Int.toNat_natCast, hgd, if_neg (fun h => hle h.2)])
          go_upto_region 12 with (fail)
          go_quiet (fail)
          have HT6 := Lib.hid (HT5.out.below (below_drewN0 _ nq))
          clear y1 y4 y6 z0 z1 z2 z3
          generalize W5.drewN nq = W6 at HT6 ⊢
          clear HT5
          obtain ⟨z0, z1, z2, z3⟩ := HT6.out.sizes
          obtain ⟨y0, _⟩ := HT6.out.cell 0 rfl
          obtain ⟨y2, y3⟩ := HT6.out.cell 13 rfl
          obtain ⟨c0, c1, c2, c3, c4, c5, c6, c7, c8, c9, c10⟩ := HT6.out.1.2.1
          go_wp2_with fail
          (with_reducible refine (attrs_any x HOK.out _).mono ?_)
          rintro e w' ⟨⟨g, rfl, hat, hg1, hg2⟩, hbb⟩
          have hgr : r < g ∧ w.heap.size + 3 ≤ g := by
            have h1 := HT6.out.sizes.2.2.2
            have h2 := HT6.out.1.room
            try simp at hg1
            omega
          clear y0 y2 y3 z0 z1 z2 z3 c0 c1 c2 c3 c4 c5 c6 c7 c8 c9 c10
          have hlk : RefsAt w' none [] ∧ (∀ q, (none : Option Addr) = some q → q.spot = none ∧ q.block ≠ r ∧ w.heap.size + 3 ≤ q.block ∧ q.block < w'.heap.size) ∧ NilOK none [] := ⟨fun j hj => absurd hj (Nat.not_lt_zero _), (fun q hq => by cases hq), fun _ => rfl⟩
          have HT7 := Lib.hid (HT6.out.below hbb)
          clear HT6
          have hat := Lib.hid hat
          have hlk := Lib.hid hlk
          obtain ⟨y2, y3⟩ := HT7.out.cell 12 rfl
          obtain ⟨_, _, _, z3⟩ := HT7.out.sizes
          go_upto_region 15 with (fail)
          have HT8 := Lib.hid (HT7.out.set 12 (.slice (some ⟨g, 0, none⟩) (attrX x.t.toNat).length 3))
          have hbk : ∀ b, b ≠ r → (w'.setCell ⟨r, 12, none⟩ (.slice (some ⟨g, 0, none⟩) (attrX x.t.toNat).length 3)).heap[b]? = w'.heap[b]? := fun b hb => heap_setCell_other _ _ _ _ (fun e => hb e)
          have hsz8 : (w'.setCell ⟨r, 12, none⟩ (.slice (some ⟨g, 0, none⟩) (attrX x.t.toNat).length 3)).heap.size = w'.heap.size := by simp
          clear HT7 y2 y3
          generalize w'.setCell ⟨r, 12, none⟩ (.slice (some ⟨g, 0, none⟩) (attrX x.t.toNat).length 3) = W8 at *
          have hblk := HT8.out.2.1
          have hres := HT8.out.1.2.2.2.2.2
          have hbel := HT8.out.1.beh
          clear HT8
          simp only [List.setIfInBounds_toArray, List.set_cons_zero, List.set_cons_succ] at hblk
          refine wp_region_lit ?_
          refine wpList_load_row rfl 73 (.tmp 12) rfl r rfl 73 _ (0, 0) _ hblk Tryz.underlying73 rfl (by kernel_rfl) ?_
          refine wpList_store_mid rfl 73 (.tmp 10) (.tmp 111) rfl (w.heap.size + 1) 0 _ rfl rfl (there_blk hres rfl) (by kernel_rfl) (by simp [Value.oneCell']) ?_
          refine k_run (by assumption) ?_
          apply wp_ret
          refine ret_row hres rfl rfl ?_ Tryz.underlying73 rfl ?_ rfl ⟨?_, below_setCells (w.heap.size + 1) (by omega) _ 0 _ hbel⟩
          · rfl
          · kernel_rfl
          · refine made_end (sp := ⟨tid, IntKind.i64.wrap ((i : Int) + 1), (pn : Int) + 1, 0, IntKind.i64.wrap (1 + IntKind.i64.wrap (x.k.tmod 4)), kindX x, nth svcs (x.s.tmod 4), nth vers (x.v.tmod 3), nth opns (x.o.tmod 3), s1, e1, x.e, some ⟨g, 0, none⟩, attrX x.t.toNat, 3, none, [], 0⟩) hat.out hlk.out hbk hsz8 hgr hg2 rfl rfl rfl rfl rfl ⟨?_, attrX_len _, by simp⟩
            rw [HSP.out]
            simp only [SpanD.bare, SpanD.moved, madeX, hw1.out, hw2.out, hm1.out, hm2.out, hm3.out, hpar.out, hL.out]
      · have hd1 : decide ((jn : Int) < (i : Int)) = false := decide_eq_false (by omega)
        obtain ⟨z0, z1, z2, z3⟩ := HT5.out.sizes
        have y1 := HT5.out.1.2.1.2.2.2.2.2.2.2.2.1
        have y4 := HT5.out.1.2.2.1
        have hL : Hid (x.linksX tid i ss s1 = []) := Lib.hid (by unfold CallD.linksX; rw [hJ, Int.toNat_natCast, if_neg (fun h => hji h.1)])
        go_upto_region 12 with (fail)
        go_quiet (fail)
        have HT6 := Lib.hid (HT5.out.below (below_drewN0 _ nq))
        clear y1 y4  z0 z1 z2 z3
        generalize W5.drewN nq = W6 at HT6 ⊢
        clear HT5
        obtain ⟨z0, z1, z2, z3⟩ := HT6.out.sizes
        obtain ⟨y0, _⟩ := HT6.out.cell 0 rfl
        obtain ⟨y2, y3⟩ := HT6.out.cell 13 rfl
        obtain ⟨c0, c1, c2, c3, c4, c5, c6, c7, c8, c9, c10⟩ := HT6.out.1.2.1
        go_wp2_with fail
        (with_reducible refine (attrs_any x HOK.out _).mono ?_)
        rintro e w' ⟨⟨g, rfl, hat, hg1, hg2⟩, hbb⟩
        have hgr : r < g ∧ w.heap.size + 3 ≤ g := by
          have h1 := HT6.out.sizes.2.2.2
          have h2 := HT6.out.1.room
          try simp at hg1
          omega
        clear y0 y2 y3 z0 z1 z2 z3 c0 c1 c2 c3 c4 c5 c6 c7 c8 c9 c10
        have hlk : RefsAt w' none [] ∧ (∀ q, (none : Option Addr) = some q → q.spot = none ∧ q.block ≠ r ∧ w.heap.size + 3 ≤ q.block ∧ q.block < w'.heap.size) ∧ NilOK none [] := ⟨fun j hj => absurd hj (Nat.not_lt_zero _), (fun q hq => by cases hq), fun _ => rfl⟩
        have HT7 := Lib.hid (HT6.out.below hbb)
        clear HT6
        have hat := Lib.hid hat
        have hlk := Lib.hid hlk
        obtain ⟨y2, y3⟩ := HT7.out.cell 12 rfl
        obtain ⟨_, _, _, z3⟩ := HT7.out.sizes
        go_upto_region 15 with (fail)
        have HT8 := Lib.hid (HT7.out.set 12 (.slice (some ⟨g, 0, none⟩) (attrX x.t.toNat).length 3))
        have hbk : ∀ b, b ≠ r → (w'.setCell ⟨r, 12, none⟩ (.slice (some ⟨g, 0, none⟩) (attrX x.t.toNat).length 3)).heap[b]? = w'.heap[b]? := fun b hb => heap_setCell_other _ _ _ _ (fun e => hb e)
        have hsz8 : (w'.setCell ⟨r, 12, none⟩ (.slice (some ⟨g, 0, none⟩) (attrX x.t.toNat).length 3)).heap.size = w'.heap.size := by simp
        clear HT7 y2 y3
        generalize w'.setCell ⟨r, 12, none⟩ (.slice (some ⟨g, 0, none⟩) (attrX x.t.toNat).length 3) = W8 at *
        have hblk := HT8.out.2.1
        have hres := HT8.out.1.2.2.2.2.2
        have hbel := HT8.out.1.beh
        clear HT8
        simp only [List.setIfInBounds_toArray, List.set_cons_zero, List.set_cons_succ] at hblk
        refine wp_region_lit ?_
        refine wpList_load_row rfl 73 (.tmp 12) rfl r rfl 73 _ (0, 0) _ hblk Tryz.underlying73 rfl (by kernel_rfl) ?_
        refine wpList_store_mid rfl 73 (.tmp 10) (.tmp 111) rfl (w.heap.size + 1) 0 _ rfl rfl (there_blk hres rfl) (by kernel_rfl) (by simp [Value.oneCell']) ?_
        refine k_run (by assumption) ?_
        apply wp_ret
        refine ret_row hres rfl rfl ?_ Tryz.underlying73 rfl ?_ rfl ⟨?_, below_setCells (w.heap.size + 1) (by omega) _ 0 _ hbel⟩
        · rfl
        · kernel_rfl
        · refine made_end (sp := ⟨tid, IntKind.i64.wrap ((i : Int) + 1), (pn : Int) + 1, 0, IntKind.i64.wrap (1 + IntKind.i64.wrap (x.k.tmod 4)), kindX x, nth svcs (x.s.tmod 4), nth vers (x.v.tmod 3), nth opns (x.o.tmod 3), s1, e1, x.e, some ⟨g, 0, none⟩, attrX x.t.toNat, 3, none, [], 0⟩) hat.out hlk.out hbk hsz8 hgr hg2 rfl rfl rfl rfl rfl ⟨?_, attrX_len _, by simp⟩
          rw [HSP.out]
          simp only [SpanD.bare, SpanD.moved, madeX, hw1.out, hw2.out, hm1.out, hm2.out, hm3.out, hpar.out, hL.out]
    · have q1 : ¬ (pn : Int) < (i : Int) := by omega
      by_cases hi0 : 0 < i
      · have q2 : (0 : Int) < (i : Int) := by omega
        have hpar : Hid (x.par i = 100) := Lib.hid (by unfold CallD.par; rw [hP, if_neg q1, if_pos hi0])
        go_upto_region 11 with (fail)
        have HT5 := Lib.hid (HT4.out.set 2 (.int .i64 100))
        generalize W4.setCell ⟨r, 2, none⟩ (.int .i64 100) = W5 at HT5 ⊢
        clear HT4 y1 y2 y3 z0 z1 z2 z3
        by_cases hji : jn < i
        · have hd1 : decide ((jn : Int) < (i : Int)) = true := decide_eq_true (by omega)
          have b1 : (0 : Int) ≤ (jn : Int) := by omega
          have b2 : (jn : Int) < (ss.length : Int) := by omega
          obtain ⟨z0, z1, z2, z3⟩ := HT5.out.sizes
          have y1 := HT5.out.1.2.1.2.2.2.2.2.2.2.2.1
          have y4 := HT5.out.1.2.2.1
          obtain ⟨sad', hsa, y5⟩ := HS.out jn (by omega)
          obtain rfl := Option.some.inj hsa
          have y6 := (HT5.out.1.beh.cell (World.block_lt_of_cell? w _ y5)).trans y5
          clear hsa y5
          have hgd : ss.getD jn 0 = ss[jn] := by simp [List.getD, show jn < ss.length by omega]
          generalize ss[jn] = sj at *
          by_cases hle : sj ≤ s1
          · have dle : decide (sj ≤ s1) = true := decide_eq_true hle
            have hL : Hid (x.linksX tid i ss s1 = [⟨tid, (jn : Int) + 1⟩]) := Lib.hid (by unfold CallD.linksX; rw [hJ, Int.toNat_natCast, hgd, if_pos ⟨hji, hle⟩])
            go_upto_region 12 with (fail)
            go_quiet (fail)
            have HT6 := Lib.hid (HT5.out.below (below_drewN0 _ nq))
            clear y1 y4 y6 z0 z1 z2 z3
            generalize W5.drewN nq = W6 at HT6 ⊢
            clear HT5
            obtain ⟨z0, z1, z2, z3⟩ := HT6.out.sizes
            obtain ⟨y0, _⟩ := HT6.out.cell 0 rfl
            obtain ⟨y2, y3⟩ := HT6.out.cell 13 rfl
            obtain ⟨c0, c1, c2, c3, c4, c5, c6, c7, c8, c9, c10⟩ := HT6.out.1.2.1
            go_wp2_with fail
            (with_reducible refine (attrs_any x HOK.out _).mono ?_)
            rintro e w' ⟨⟨g, rfl, hat, hg1, hg2⟩, hbb⟩
            have hgr : r < g ∧ w.heap.size + 3 ≤ g := by
              have h1 := HT6.out.sizes.2.2.2
              have h2 := HT6.out.1.room
              try simp at hg1
              omega
            clear y0 y2 y3 z0 z1 z2 z3 c0 c1 c2 c3 c4 c5 c6 c7 c8 c9 c10
            have hlk : RefsAt w' (some ⟨W6.heap.size, 0, none⟩) [⟨tid, (jn : Int) + 1⟩] ∧ (∀ q, (some ⟨W6.heap.size, 0, none⟩ : Option Addr) = some q → q.spot = none ∧ q.block ≠ r ∧ w.heap.size + 3 ≤ q.block ∧ q.block < w'.heap.size) ∧ NilOK (some ⟨W6.heap.size, 0, none⟩) [RefD.mk tid ((jn : Int) + 1)] := by
              have h0 := blk_keep hbb (show ((W6.setCell ⟨r, 13, none⟩ (.slice (some ⟨W6.heap.size, 0, none⟩) 1 1)).alloc (.cells #[.int .i64 tid, .int .i64 ((jn : Int) + 1)] 113)).heap[W6.heap.size]? = some (Obj.cells #[.int .i64 tid, .int .i64 ((jn : Int) + 1)] 113 (0, 0)) from by have := heap_alloc_last (W6.setCell ⟨r, 13, none⟩ (.slice (some ⟨W6.heap.size, 0, none⟩) 1 1)) (.cells #[.int .i64 tid, .int .i64 ((jn : Int) + 1)] 113); simpa using this)
              have hr := HT6.out.1.room
              have hr2 := HT6.out.sizes.2.2.2
              refine ⟨fun j hj => ?_, fun q hq => ?_, fun h => by cases h⟩
              · obtain rfl : j = 0 := by simpa using hj
                refine ⟨_, rfl, ?_⟩
                rw [Addr.add_mid]
                exact ⟨cell_blk h0 _ rfl, cell_blk h0 _ rfl⟩
              · cases hq
                have h3 := blk_lt h0
                exact ⟨rfl, by show W6.heap.size ≠ r; omega, by show _ ≤ W6.heap.size; omega, h3⟩
            have HT7 := Lib.hid ((HT6.out.put 13 (.slice (some ⟨W6.heap.size, 0, none⟩) 1 1) _).below hbb)
            clear HT6
            have hat := Lib.hid hat
            have hlk := Lib.hid hlk
            obtain ⟨y2, y3⟩ := HT7.out.cell 12 rfl
            obtain ⟨_, _, _, z3⟩ := HT7.out.sizes
            go_upto_region 15 with (fail)
            have HT8 := Lib.hid (HT7.out.set 12 (.slice (some ⟨g, 0, none⟩) (attrX x.t.toNat).length 3))
            have hbk : ∀ b, b ≠ r → (w'.setCell ⟨r, 12, none⟩ (.slice (some ⟨g, 0, none⟩) (attrX x.t.toNat).length 3)).heap[b]? = w'.heap[b]? := fun b hb => heap_setCell_other _ _ _ _ (fun e => hb e)
            have hsz8 : (w'.setCell ⟨r, 12, none⟩ (.slice (some ⟨g, 0, none⟩) (attrX x.t.toNat).length 3)).heap.size = w'.heap.size := by simp
            clear HT7 y2 y3
            generalize w'.setCell ⟨r, 12, none⟩ (.slice (some ⟨g, 0, none⟩) (attrX x.t.toNat).length 3) = W8 at *
            have hblk := HT8.out.2.1
            have hres := HT8.out.1.2.2.2.2.2
            have hbel := HT8.out.1.beh
            clear HT8
            simp only [List.setIfInBounds_toArray, List.set_cons_zero, List.set_cons_succ] at hblk
            refine wp_region_lit ?_
            refine wpList_load_row rfl 73 (.tmp 12) rfl r rfl 73 _ (0, 0) _ hblk Tryz.underlying73 rfl (by kernel_rfl) ?_
            refine wpList_store_mid rfl 73 (.tmp 10) (.tmp 111) rfl (w.heap.size + 1) 0 _ rfl rfl (there_blk hres rfl) (by kernel_rfl) (by simp [Value.oneCell']) ?_
            refine k_run (by assumption) ?_
            apply wp_ret
            refine ret_row hres rfl rfl ?_ Tryz.underlying73 rfl ?_ rfl ⟨?_, below_setCells (w.heap.size + 1) (by omega) _ 0 _ hbel⟩
            · rfl
            · kernel_rfl
            · refine made_end (sp := ⟨tid, IntKind.i64.wrap ((i : Int) + 1), 100, 0, IntKind.i64.wrap (1 + IntKind.i64.wrap (x.k.tmod 4)), kindX x, nth svcs (x.s.tmod 4), nth vers (x.v.tmod 3), nth opns (x.o.tmod 3), s1, e1, x.e, some ⟨g, 0, none⟩, attrX x.t.toNat, 3, some ⟨W6.heap.size, 0, none⟩, [⟨tid, (jn : Int) + 1⟩], 1⟩) hat.out hlk.out hbk hsz8 hgr hg2 rfl rfl rfl rfl rfl ⟨?_, attrX_len _, by simp⟩
              rw [HSP.out]
              simp only [SpanD.bare, SpanD.moved, madeX, hw1.out, hw2.out, hm1.out, hm2.out, hm3.out, hpar.out, hL.out]
          · have dle : decide (sj ≤ s1) = false := decide_eq_false hle
            have hL : Hid (x.linksX tid i ss s1 = []) := Lib.hid (by unfold CallD.linksX; rw [hJ, Int.toNat_natCast, hgd, if_neg (fun h => hle h.2)])
            go_upto_region 12 with (fail)
            go_quiet (fail)
            have HT6 := Lib.hid (HT5.out.below (below_drewN0 _ nq))
            clear y1 y4 y6 z0 z1 z2 z3
            generalize W5.drewN nq = W6 at HT6 ⊢
            clear HT5
            obtain ⟨z0, z1, z2, z3⟩ := HT6.out.sizes
            obtain ⟨y0, _⟩ := HT6.out.cell 0 rfl
            obtain ⟨y2, y3⟩ := HT6.out.cell 13 rfl
            obtain ⟨c0, c1, c2, c3, c4, c5, c6, c7, c8, c9, c10⟩ := HT6.out.1.2.1
            go_wp2_with fail
            (with_reducible refine (attrs_any x HOK.out _).mono ?_)
            rintro e w' ⟨⟨g, rfl, hat, hg1, hg2⟩, hbb⟩
            have hgr : r < g ∧ w.heap.size + 3 ≤ g := by
              have h1 := HT6.out.sizes.2.2.2
              have h2 := HT6.out.1.room
              try simp at hg1
              omega
            clear y0 y2 y3 z0 z1 z2 z3 c0 c1 c2 c3 c4 c5 c6 c7 c8 c9 c10
            have hlk : RefsAt w' none [] ∧ (∀ q, (none : Option Addr) = some q → q.spot = none ∧ q.block ≠ r ∧ w.heap.size + 3 ≤ q.block ∧ q.block < w'.heap.size) ∧ NilOK none [] := ⟨fun j hj => absurd hj (Nat.not_lt_zero _), (fun q hq => by cases hq), fun _ => rfl⟩
            have HT7 := Lib.hid (HT6.out.below hbb)
            clear HT6
            have hat := Lib.hid hat
            have hlk := Lib.hid hlk
            obtain ⟨y2, y3⟩ := HT7.out.cell 12 rfl
            obtain ⟨_, _, _, z3⟩ := HT7.out.sizes
            go_upto_region 15 with (fail)
            have HT8 := Lib.hid (HT7.out.set 12 (.slice (some ⟨g, 0, none⟩) (attrX x.t.toNat).length 3))
            have hbk : ∀ b, b ≠ r → (w'.setCell ⟨r, 12, none⟩ (.slice (some ⟨g, 0, none⟩) (attrX x.t.toNat).length 3)).heap[b]? = w'.heap[b]? := fun b hb => heap_setCell_other _ _ _ _ (fun e => hb e)
            have hsz8 : (w'.setCell ⟨r, 12, none⟩ (.slice (some ⟨g, 0, none⟩) (attrX x.t.toNat).length 3)).heap.size = w'.heap.size := by simp
            clear HT7 y2 y3
            generalize w'.setCell ⟨r, 12, none⟩ (.slice (some ⟨g, 0, none⟩) (attrX x.t.toNat).length 3) = W8 at *
            have hblk := HT8.out.2.1
            have hres := HT8.out.1.2.2.2.2.2
            have hbel := HT8.out.1.beh
            clear HT8
            simp only [List.setIfInBounds_toArray, List.set_cons_zero, List.set_cons_succ] at hblk
            refine wp_region_lit ?_
            refine wpList_load_row rfl 73 (.tmp 12) rfl r rfl 73 _ (0, 0) _ hblk Tryz.underlying73 rfl (by kernel_rfl) ?_
            refine wpList_store_mid rfl 73 (.tmp 10) (.tmp 111) rfl (w.heap.size + 1) 0 _ rfl rfl (there_blk hres rfl) (by kernel_rfl) (by simp [Value.oneCell']) ?_
            refine k_run (by assumption) ?_
            apply wp_ret
            refine ret_row hres rfl rfl ?_ Tryz.underlying73 rfl ?_ rfl ⟨?_, below_setCells (w.heap.size + 1) (by omega) _ 0 _ hbel⟩
            · rfl
            · kernel_rfl
            · refine made_end (sp := ⟨tid, IntKind.i64.wrap ((i : Int) + 1), 100, 0, IntKind.i64.wrap (1 + IntKind.i64.wrap (x.k.tmod 4)), kindX x, nth svcs (x.s.tmod 4), nth vers (x.v.tmod 3), nth opns (x.o.tmod 3), s1, e1, x.e, some ⟨g, 0, none⟩, attrX x.t.toNat, 3, none, [], 0⟩) hat.out hlk.out hbk hsz8 hgr hg2 rfl rfl rfl rfl rfl ⟨?_, attrX_len _, by simp⟩
              rw [HSP.out]
              simp only [SpanD.bare, SpanD.moved, madeX, hw1.out, hw2.out, hm1.out, hm2.out, hm3.out, hpar.out, hL.out]
        · have hd1 : decide ((jn : Int) < (i : Int)) = false := decide_eq_false (by omega)
          obtain ⟨z0, z1, z2, z3⟩ := HT5.out.sizes
          have y1 := HT5.out.1.2.1.2.2.2.2.2.2.2.2.1
          have y4 := HT5.out.1.2.2.1
          have hL : Hid (x.linksX tid i ss s1 = []) := Lib.hid (by unfold CallD.linksX; rw [hJ, Int.toNat_natCast, if_neg (fun h => hji h.1)])
          go_upto_region 12 with (fail)
          go_quiet (fail)
          have HT6 := Lib.hid (HT5.out.below (below_drewN0 _ nq))
          clear y1 y4  z0 z1 z2 z3
          generalize W5.drewN nq = W6 at HT6 ⊢
          clear HT5
          obtain ⟨z0, z1, z2, z3⟩ := HT6.out.sizes
          obtain ⟨y0, _⟩ := HT6.out.cell 0 rfl
          obtain ⟨y2, y3⟩ := HT6.out.cell 13 rfl
          obtain ⟨c0, c1, c2, c3, c4, c5, c6, c7, c8, c9, c10⟩ := HT6.out.1.2.1
          go_wp2_with fail
          (with_reducible refine (attrs_any x HOK.out _).mono ?_)
          rintro e w' ⟨⟨g, rfl, hat, hg1, hg2⟩, hbb⟩
          have hgr : r < g ∧ w.heap.size + 3 ≤ g := by
            have h1 := HT6.out.sizes.2.2.2
            have h2 := HT6.out.1.room
            try simp at hg1
            omega
          clear y0 y2 y3 z0 z1 z2 z3 c0 c1 c2 c3 c4 c5 c6 c7 c8 c9 c10
          have hlk : RefsAt w' none [] ∧ (∀ q, (none : Option Addr) = some q → q.spot = none ∧ q.block ≠ r ∧ w.heap.size + 3 ≤ q.block ∧ q.block < w'.heap.size) ∧ NilOK none [] := ⟨fun j hj => absurd hj (Nat.not_lt_zero _), (fun q hq => by cases hq), fun _ => rfl⟩
          have HT7 := Lib.hid (HT6.out.below hbb)
          clear HT6
          have hat := Lib.hid hat
          have hlk := Lib.hid hlk
          obtain ⟨y2, y3⟩ := HT7.out.cell 12 rfl
          obtain ⟨_, _, _, z3⟩ := HT7.out.sizes
          go_upto_region 15 with (fail)
          have HT8 := Lib.hid (HT7.out.set 12 (.slice (some ⟨g, 0, none⟩) (attrX x.t.toNat).length 3))
          have hbk : ∀ b, b ≠ r → (w'.setCell ⟨r, 12, none⟩ (.slice (some ⟨g, 0, none⟩) (attrX x.t.toNat).length 3)).heap[b]? = w'.heap[b]? := fun b hb => heap_setCell_other _ _ _ _ (fun e => hb e)
          have hsz8 : (w'.setCell ⟨r, 12, none⟩ (.slice (some ⟨g, 0, none⟩) (attrX x.t.toNat).length 3)).heap.size = w'.heap.size := by simp
          clear HT7 y2 y3
          generalize w'.setCell ⟨r, 12, none⟩ (.slice (some ⟨g, 0, none⟩) (attrX x.t.toNat).length 3) = W8 at *
          have hblk := HT8.out.2.1
          have hres := HT8.out.1.2.2.2.2.2
          have hbel := HT8.out.1.beh
          clear HT8
          simp only [List.setIfInBounds_toArray, List.set_cons_zero, List.set_cons_succ] at hblk
          refine wp_region_lit ?_
          refine wpList_load_row rfl 73 (.tmp 12) rfl r rfl 73 _ (0, 0) _ hblk Tryz.underlying73 rfl (by kernel_rfl) ?_
          refine wpList_store_mid rfl 73 (.tmp 10) (.tmp 111) rfl (w.heap.size + 1) 0 _ rfl rfl (there_blk hres rfl) (by kernel_rfl) (by simp [Value.oneCell']) ?_
          refine k_run (by assumption) ?_
          apply wp_ret
          refine ret_row hres rfl rfl ?_ Tryz.underlying73 rfl ?_ rfl ⟨?_, below_setCells (w.heap.size + 1) (by omega) _ 0 _ hbel⟩
          · rfl
          · kernel_rfl
          · refine made_end (sp := ⟨tid, IntKind.i64.wrap ((i : Int) + 1), 100, 0, IntKind.i64.wrap (1 + IntKind.i64.wrap (x.k.tmod 4)), kindX x, nth svcs (x.s.tmod 4), nth vers (x.v.tmod 3), nth opns (x.o.tmod 3), s1, e1, x.e, some ⟨g, 0, none⟩, attrX x.t.toNat, 3, none, [], 0⟩) hat.out hlk.out hbk hsz8 hgr hg2 rfl rfl rfl rfl rfl ⟨?_, attrX_len _, by simp⟩
            rw [HSP.out]
            simp only [SpanD.bare, SpanD.moved, madeX, hw1.out, hw2.out, hm1.out, hm2.out, hm3.out, hpar.out, hL.out]
      · have hpar : Hid (x.par i = 0) := Lib.hid (by unfold CallD.par; rw [hP, if_neg q1, if_neg hi0])
        go_upto_region 11 with (fail)
        have HT5 := HT4
        clear HT4 y1 y2 y3 z0 z1 z2 z3
        generalize W4 = W5 at *
        have hji : ¬ jn < i := by omega
        have hd1 : decide ((jn : Int) < (i : Int)) = false := decide_eq_false (by omega)
        obtain ⟨z0, z1, z2, z3⟩ := HT5.out.sizes
        have y1 := HT5.out.1.2.1.2.2.2.2.2.2.2.2.1
        have y4 := HT5.out.1.2.2.1
        have hL : Hid (x.linksX tid i ss s1 = []) := Lib.hid (by unfold CallD.linksX; rw [hJ, Int.toNat_natCast, if_neg (fun h => hji h.1)])
        go_upto_region 12 with (fail)
        go_quiet (fail)
        have HT6 := Lib.hid (HT5.out.below (below_drewN0 _ nq))
        clear y1 y4  z0 z1 z2 z3
        generalize W5.drewN nq = W6 at HT6 ⊢
        clear HT5
        obtain ⟨z0, z1, z2, z3⟩ := HT6.out.sizes
        obtain ⟨y0, _⟩ := HT6.out.cell 0 rfl
        obtain ⟨y2, y3⟩ := HT6.out.cell 13 rfl
        obtain ⟨c0, c1, c2, c3, c4, c5, c6, c7, c8, c9, c10⟩ := HT6.out.1.2.1
        go_wp2_with fail
        (with_reducible refine (attrs_any x HOK.out _).mono ?_)
        rintro e w' ⟨⟨g, rfl, hat, hg1, hg2⟩, hbb⟩
        have hgr : r < g ∧ w.heap.size + 3 ≤ g := by
          have h1 := HT6.out.sizes.2.2.2
          have h2 := HT6.out.1.room
          try simp at hg1
          omega
        clear y0 y2 y3 z0 z1 z2 z3 c0 c1 c2 c3 c4 c5 c6 c7 c8 c9 c10
        have hlk : RefsAt w' none [] ∧ (∀ q, (none : Option Addr) = some q → q.spot = none ∧ q.block ≠ r ∧ w.heap.size + 3 ≤ q.block ∧ q.block < w'.heap.size) ∧ NilOK none [] := ⟨fun j hj => absurd hj (Nat.not_lt_zero _), (fun q hq => by cases hq), fun _ => rfl⟩
        have HT7 := Lib.hid (HT6.out.below hbb)
        clear HT6
        have hat := Lib.hid hat
        have hlk := Lib.hid hlk
        obtain ⟨y2, y3⟩ := HT7.out.cell 12 rfl
        obtain ⟨_, _, _, z3⟩ := HT7.out.sizes
        go_upto_region 15 with (fail)
        have HT8 := Lib.hid (HT7.out.set 12 (.slice (some ⟨g, 0, none⟩) (attrX x.t.toNat).length 3))
        have hbk : ∀ b, b ≠ r → (w'.setCell ⟨r, 12, none⟩ (.slice (some ⟨g, 0, none⟩) (attrX x.t.toNat).length 3)).heap[b]? = w'.heap[b]? := fun b hb => heap_setCell_other _ _ _ _ (fun e => hb e)
        have hsz8 : (w'.setCell ⟨r, 12, none⟩ (.slice (some ⟨g, 0, none⟩) (attrX x.t.toNat).length 3)).heap.size = w'.heap.size := by simp
        clear HT7 y2 y3
        generalize w'.setCell ⟨r, 12, none⟩ (.slice (some ⟨g, 0, none⟩) (attrX x.t.toNat).length 3) = W8 at *
        have hblk := HT8.out.2.1
        have hres := HT8.out.1.2.2.2.2.2
        have hbel := HT8.out.1.beh
        clear HT8
        simp only [List.setIfInBounds_toArray, List.set_cons_zero, List.set_cons_succ] at hblk
        refine wp_region_lit ?_
        refine wpList_load_row rfl 73 (.tmp 12) rfl r rfl 73 _ (0, 0) _ hblk Tryz.underlying73 rfl (by kernel_rfl) ?_
        refine wpList_store_mid rfl 73 (.tmp 10) (.tmp 111) rfl (w.heap.size + 1) 0 _ rfl rfl (there_blk hres rfl) (by kernel_rfl) (by simp [Value.oneCell']) ?_
        refine k_run (by assumption) ?_
        apply wp_ret
        refine ret_row hres rfl rfl ?_ Tryz.underlying73 rfl ?_ rfl ⟨?_, below_setCells (w.heap.size + 1) (by omega) _ 0 _ hbel⟩
        · rfl
        · kernel_rfl
        · refine made_end (sp := ⟨tid, IntKind.i64.wrap ((i : Int) + 1), 0, 0, IntKind.i64.wrap (1 + IntKind.i64.wrap (x.k.tmod 4)), kindX x, nth svcs (x.s.tmod 4), nth vers (x.v.tmod 3), nth opns (x.o.tmod 3), s1, e1, x.e, some ⟨g, 0, none⟩, attrX x.t.toNat, 3, none, [], 0⟩) hat.out hlk.out hbk hsz8 hgr hg2 rfl rfl rfl rfl rfl ⟨?_, attrX_len _, by simp⟩
          rw [HSP.out]
          simp only [SpanD.bare, SpanD.moved, madeX, hw1.out, hw2.out, hm1.out, hm2.out, hm3.out, hpar.out, hL.out]
end Go.Proofs.YtnddlpfmagdbfaaGreatDoor.Sto
