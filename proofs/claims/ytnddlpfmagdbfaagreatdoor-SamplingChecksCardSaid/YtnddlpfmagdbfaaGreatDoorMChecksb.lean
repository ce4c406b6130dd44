/- Part 2 of the proof: contracts. Contract: the value of a field of truth; Contract: the value of a field, joined; Contracts: a function that is true of an element of a list of predicates; Contract: does a span satisfy a predicate?; Contract: does a span satisfy a predicate? By its operation; Contract: does a span satisfy a predicate? The rest; Contracts: the exponent that a policy gives to a trace; Contracts: the exponent that a policy gives to a trace; Contracts: the exponent that a policy gives to a trace: given; Contract: the exponent that a policy gives to a trace, as the law says it; Contracts: names and values; Contract. -/
import Derived.Test.YtnddlpfmagdbfaaGreatDoorMChecksa
import Derived.Handy
/- Contract: the value of a field of truth. -/
namespace Go.Proofs.YtnddlpfmagdbfaaGreatDoor
open Go Go.Proofs Go.RowKit
set_option linter.unusedVariables false
set_option linter.unusedSimpArgs false
set_option maxHeartbeats 8000000 in
set_option maxRecDepth 20000 in
theorem val_err1 (x : SpanD) (f k : ByteArray) (w : World) (hf : ¬ f.toList = [97, 116, 116, 114]) (hs : hasS fieldsL f = true) (hk : k.toList = []) (hK : fkX f = 3) (h3 : f.toList = [101, 114, 114, 111, 114]) (h4 : x.err = true) :
    Calls Tryz.prog 133 #[.agg x.cells.toArray, .string f, .string k] w fun e w' => e = .returned (.tuple #[.agg #[.int .i64 3, .string ⟨#[]⟩, .int .i64 (numB true)], .bool true]) ∧ Below w.heap.size w w' := by
  have HG := Lib.hid (fieldKind_any f (valW x w))
  have HT := Lib.hid (fun W => (numB_any true W).mono (fun e w' h => (⟨h.1, by rw [h.2]; exact Below.refl _ _⟩ : e = .returned (.int .i64 (numB true)) ∧ Below W.heap.size W w')))
  have hR := Lib.hid (blkR x w)
  have hVV := Lib.hid (blkV x w)
  have hsz := Lib.hid (size_valW x w)
  have hB := Lib.hid (below_valW x w)
  rw [hs, hK] at HG
  simp only [if_true] at HG
  clear hf hs hK
  unfold valW at HG hR hsz hB hVV
  unfold SpanD.cells at HG hR hsz hB hVV ⊢
  simp only [h4] at HG hR hsz hB hVV ⊢
  clear h4
  go_enter Tryz.func133, Tryz.ntmps133
  go_wp2_with (first
    | (go_at_call 136; (with_reducible refine HG.out.mono ?_); rintro e w1 ⟨rfl, hg⟩; have hV := (Grew.alloc w1 (.cells #[.int .i64 3, .string ⟨#[]⟩, .int .i64 0] 31)).blk (blk_keep hg hVV.out); have v0 : (w1.alloc (.cells #[.int .i64 3, .string ⟨#[]⟩, .int .i64 0] 31)).cell? ⟨w.heap.size, 0, none⟩ = some (.int .i64 x.trace) := cell_blk hV 0 rfl; have v1 : (w1.alloc (.cells #[.int .i64 3, .string ⟨#[]⟩, .int .i64 0] 31)).cell? ⟨w.heap.size, 1, none⟩ = some (.int .i64 x.id) := cell_blk hV 1 rfl; have v2 : (w1.alloc (.cells #[.int .i64 3, .string ⟨#[]⟩, .int .i64 0] 31)).cell? ⟨w.heap.size, 2, none⟩ = some (.int .i64 x.parent) := cell_blk hV 2 rfl; have v3 : (w1.alloc (.cells #[.int .i64 3, .string ⟨#[]⟩, .int .i64 0] 31)).cell? ⟨w.heap.size, 3, none⟩ = some (.int .i64 x.rev) := cell_blk hV 3 rfl; have v4 : (w1.alloc (.cells #[.int .i64 3, .string ⟨#[]⟩, .int .i64 0] 31)).cell? ⟨w.heap.size, 4, none⟩ = some (.int .i64 x.clock) := cell_blk hV 4 rfl; have v5 : (w1.alloc (.cells #[.int .i64 3, .string ⟨#[]⟩, .int .i64 0] 31)).cell? ⟨w.heap.size, 5, none⟩ = some (.int .i64 x.kind) := cell_blk hV 5 rfl; have v6 : (w1.alloc (.cells #[.int .i64 3, .string ⟨#[]⟩, .int .i64 0] 31)).cell? ⟨w.heap.size, 6, none⟩ = some (.string x.svc) := cell_blk hV 6 rfl; have v7 : (w1.alloc (.cells #[.int .i64 3, .string ⟨#[]⟩, .int .i64 0] 31)).cell? ⟨w.heap.size, 7, none⟩ = some (.string x.ver) := cell_blk hV 7 rfl; have v8 : (w1.alloc (.cells #[.int .i64 3, .string ⟨#[]⟩, .int .i64 0] 31)).cell? ⟨w.heap.size, 8, none⟩ = some (.string x.op) := cell_blk hV 8 rfl; have v9 : (w1.alloc (.cells #[.int .i64 3, .string ⟨#[]⟩, .int .i64 0] 31)).cell? ⟨w.heap.size, 9, none⟩ = some (.int .i64 x.st) := cell_blk hV 9 rfl; have v10 : (w1.alloc (.cells #[.int .i64 3, .string ⟨#[]⟩, .int .i64 0] 31)).cell? ⟨w.heap.size, 10, none⟩ = some (.int .i64 x.en) := cell_blk hV 10 rfl; have v11 : (w1.alloc (.cells #[.int .i64 3, .string ⟨#[]⟩, .int .i64 0] 31)).cell? ⟨w.heap.size, 11, none⟩ = some (.bool true) := cell_blk hV 11 rfl; have v12 : (w1.alloc (.cells #[.int .i64 3, .string ⟨#[]⟩, .int .i64 0] 31)).cell? ⟨w.heap.size, 12, none⟩ = some (.slice x.aA x.attrs.length x.aC) := cell_blk hV 12 rfl; have v13 : (w1.alloc (.cells #[.int .i64 3, .string ⟨#[]⟩, .int .i64 0] 31)).cell? ⟨w.heap.size, 13, none⟩ = some (.slice x.lA x.links.length x.lC) := cell_blk hV 13 rfl; have hk1 := Lib.hid ((Grew.alloc w1 (.cells #[.int .i64 3, .string ⟨#[]⟩, .int .i64 0] 31)).blk (blk_keep hg hR.out)); have hT1 := Lib.hid (blk_new w1 #[.int .i64 3, .string ⟨#[]⟩, .int .i64 0] 31); have hs1 : Hid (w.heap.size + 2 ≤ w1.heap.size) := Lib.hid (by have h1 := hg.size; have h2 := hsz.out; omega); have hg1 := Lib.hid ((hB.out.trans (hg.mono hB.out.size)).alloc (by have := hs1.out; omega) (.cells #[.int .i64 3, .string ⟨#[]⟩, .int .i64 0] 31)); clear hV hg)
    | (go_at_call 83; (with_reducible refine (HT.out _).mono ?_); rintro e w2 ⟨rfl, hg2⟩; have hT2 := blk_keep hg2 hT1.out; have hk2 := blk_keep hg2 hk1.out; have z0 := cell_blk hT2 0 rfl; have z1 := cell_blk hT2 1 rfl; have z2 := cell_blk hT2 2 rfl; have zf := fun i => frozen_blk hT2 i; have y0 := cell_blk hk2 0 rfl; have y1 := cell_blk hk2 1 rfl; have y2 := cell_blk hk2 2 rfl; have hff := fun i => frozen_blk hk2 i; have hne : w.heap.size + 1 ≠ w1.heap.size := (by have := hs1.out; omega); have hg3 := Lib.hid (hg1.out.trans (hg2.mono (by have := hs1.out; simp; omega))); have hT2 := Lib.hid hT2; have hk2 := Lib.hid hk2; clear hg2))
  have hs2 := hs1.out
  refine ret_row_tmp (heap_setCell_same _ _ 2 _ _ _ (heap_setCell_same _ _ 1 _ _ _ (heap_setCell_same _ _ 0 _ _ _ ((heap_setCell_other _ ⟨w1.heap.size, 2, none⟩ _ _ hne).trans hk2.out)))) rfl rfl Tryz.underlying31 rfl (by kernel_rfl) rfl ?_
  exact ⟨rfl, (((hg3.out.setCell (p := ⟨w1.heap.size, 2, none⟩) (by simp; omega) _).setCell (p := ⟨w.heap.size + 1, 0, none⟩) (by simp) _).setCell (p := ⟨w.heap.size + 1, 1, none⟩) (by simp) _).setCell (p := ⟨w.heap.size + 1, 2, none⟩) (by simp) _⟩
set_option maxHeartbeats 8000000 in
set_option maxRecDepth 20000 in
theorem val_err0 (x : SpanD) (f k : ByteArray) (w : World) (hf : ¬ f.toList = [97, 116, 116, 114]) (hs : hasS fieldsL f = true) (hk : k.toList = []) (hK : fkX f = 3) (h3 : f.toList = [101, 114, 114, 111, 114]) (h4 : x.err = false) :
    Calls Tryz.prog 133 #[.agg x.cells.toArray, .string f, .string k] w fun e w' => e = .returned (.tuple #[.agg #[.int .i64 3, .string ⟨#[]⟩, .int .i64 (numB false)], .bool true]) ∧ Below w.heap.size w w' := by
  have HG := Lib.hid (fieldKind_any f (valW x w))
  have HT := Lib.hid (fun W => (numB_any false W).mono (fun e w' h => (⟨h.1, by rw [h.2]; exact Below.refl _ _⟩ : e = .returned (.int .i64 (numB false)) ∧ Below W.heap.size W w')))
  have hR := Lib.hid (blkR x w)
  have hVV := Lib.hid (blkV x w)
  have hsz := Lib.hid (size_valW x w)
  have hB := Lib.hid (below_valW x w)
  rw [hs, hK] at HG
  simp only [if_true] at HG
  clear hf hs hK
  unfold valW at HG hR hsz hB hVV
  unfold SpanD.cells at HG hR hsz hB hVV ⊢
  simp only [h4] at HG hR hsz hB hVV ⊢
  clear h4
  go_enter Tryz.func133, Tryz.ntmps133
  go_wp2_with (first
    | (go_at_call 136; (with_reducible refine HG.out.mono ?_); rintro e w1 ⟨rfl, hg⟩; have hV := (Grew.alloc w1 (.cells #[.int .i64 3, .string ⟨#[]⟩, .int .i64 0] 31)).blk (blk_keep hg hVV.out); have v0 : (w1.alloc (.cells #[.int .i64 3, .string ⟨#[]⟩, .int .i64 0] 31)).cell? ⟨w.heap.size, 0, none⟩ = some (.int .i64 x.trace) := cell_blk hV 0 rfl; have v1 : (w1.alloc (.cells #[.int .i64 3, .string ⟨#[]⟩, .int .i64 0] 31)).cell? ⟨w.heap.size, 1, none⟩ = some (.int .i64 x.id) := cell_blk hV 1 rfl; have v2 : (w1.alloc (.cells #[.int .i64 3, .string ⟨#[]⟩, .int .i64 0] 31)).cell? ⟨w.heap.size, 2, none⟩ = some (.int .i64 x.parent) := cell_blk hV 2 rfl; have v3 : (w1.alloc (.cells #[.int .i64 3, .string ⟨#[]⟩, .int .i64 0] 31)).cell? ⟨w.heap.size, 3, none⟩ = some (.int .i64 x.rev) := cell_blk hV 3 rfl; have v4 : (w1.alloc (.cells #[.int .i64 3, .string ⟨#[]⟩, .int .i64 0] 31)).cell? ⟨w.heap.size, 4, none⟩ = some (.int .i64 x.clock) := cell_blk hV 4 rfl; have v5 : (w1.alloc (.cells #[.int .i64 3, .string ⟨#[]⟩, .int .i64 0] 31)).cell? ⟨w.heap.size, 5, none⟩ = some (.int .i64 x.kind) := cell_blk hV 5 rfl; have v6 : (w1.alloc (.cells #[.int .i64 3, .string ⟨#[]⟩, .int .i64 0] 31)).cell? ⟨w.heap.size, 6, none⟩ = some (.string x.svc) := cell_blk hV 6 rfl; have v7 : (w1.alloc (.cells #[.int .i64 3, .string ⟨#[]⟩, .int .i64 0] 31)).cell? ⟨w.heap.size, 7, none⟩ = some (.string x.ver) := cell_blk hV 7 rfl; have v8 : (w1.alloc (.cells #[.int .i64 3, .string ⟨#[]⟩, .int .i64 0] 31)).cell? ⟨w.heap.size, 8, none⟩ = some (.string x.op) := cell_blk hV 8 rfl; have v9 : (w1.alloc (.cells #[.int .i64 3, .string ⟨#[]⟩, .int .i64 0] 31)).cell? ⟨w.heap.size, 9, none⟩ = some (.int .i64 x.st) := cell_blk hV 9 rfl; have v10 : (w1.alloc (.cells #[.int .i64 3, .string ⟨#[]⟩, .int .i64 0] 31)).cell? ⟨w.heap.size, 10, none⟩ = some (.int .i64 x.en) := cell_blk hV 10 rfl; have v11 : (w1.alloc (.cells #[.int .i64 3, .string ⟨#[]⟩, .int .i64 0] 31)).cell? ⟨w.heap.size, 11, none⟩ = some (.bool false) := cell_blk hV 11 rfl; have v12 : (w1.alloc (.cells #[.int .i64 3, .string ⟨#[]⟩, .int .i64 0] 31)).cell? ⟨w.heap.size, 12, none⟩ = some (.slice x.aA x.attrs.length x.aC) := cell_blk hV 12 rfl; have v13 : (w1.alloc (.cells #[.int .i64 3, .string ⟨#[]⟩, .int .i64 0] 31)).cell? ⟨w.heap.size, 13, none⟩ = some (.slice x.lA x.links.length x.lC) := cell_blk hV 13 rfl; have hk1 := Lib.hid ((Grew.alloc w1 (.cells #[.int .i64 3, .string ⟨#[]⟩, .int .i64 0] 31)).blk (blk_keep hg hR.out)); have hT1 := Lib.hid (blk_new w1 #[.int .i64 3, .string ⟨#[]⟩, .int .i64 0] 31); have hs1 : Hid (w.heap.size + 2 ≤ w1.heap.size) := Lib.hid (by have h1 := hg.size; have h2 := hsz.out; omega); have hg1 := Lib.hid ((hB.out.trans (hg.mono hB.out.size)).alloc (by have := hs1.out; omega) (.cells #[.int .i64 3, .string ⟨#[]⟩, .int .i64 0] 31)); clear hV hg)
    | (go_at_call 83; (with_reducible refine (HT.out _).mono ?_); rintro e w2 ⟨rfl, hg2⟩; have hT2 := blk_keep hg2 hT1.out; have hk2 := blk_keep hg2 hk1.out; have z0 := cell_blk hT2 0 rfl; have z1 := cell_blk hT2 1 rfl; have z2 := cell_blk hT2 2 rfl; have zf := fun i => frozen_blk hT2 i; have y0 := cell_blk hk2 0 rfl; have y1 := cell_blk hk2 1 rfl; have y2 := cell_blk hk2 2 rfl; have hff := fun i => frozen_blk hk2 i; have hne : w.heap.size + 1 ≠ w1.heap.size := (by have := hs1.out; omega); have hg3 := Lib.hid (hg1.out.trans (hg2.mono (by have := hs1.out; simp; omega))); have hT2 := Lib.hid hT2; have hk2 := Lib.hid hk2; clear hg2))
  have hs2 := hs1.out
  refine ret_row_tmp (heap_setCell_same _ _ 2 _ _ _ (heap_setCell_same _ _ 1 _ _ _ (heap_setCell_same _ _ 0 _ _ _ ((heap_setCell_other _ ⟨w1.heap.size, 2, none⟩ _ _ hne).trans hk2.out)))) rfl rfl Tryz.underlying31 rfl (by kernel_rfl) rfl ?_
  exact ⟨rfl, (((hg3.out.setCell (p := ⟨w1.heap.size, 2, none⟩) (by simp; omega) _).setCell (p := ⟨w.heap.size + 1, 0, none⟩) (by simp) _).setCell (p := ⟨w.heap.size + 1, 1, none⟩) (by simp) _).setCell (p := ⟨w.heap.size + 1, 2, none⟩) (by simp) _⟩
set_option maxHeartbeats 8000000 in
set_option maxRecDepth 20000 in
theorem val_root1 (x : SpanD) (f k : ByteArray) (w : World) (hf : ¬ f.toList = [97, 116, 116, 114]) (hs : hasS fieldsL f = true) (hk : k.toList = []) (hK : fkX f = 3) (h3 : f.toList = [114, 111, 111, 116]) (h4 : (x.parent == 0) = true) :
    Calls Tryz.prog 133 #[.agg x.cells.toArray, .string f, .string k] w fun e w' => e = .returned (.tuple #[.agg #[.int .i64 3, .string ⟨#[]⟩, .int .i64 (numB true)], .bool true]) ∧ Below w.heap.size w w' := by
  have HG := Lib.hid (fieldKind_any f (valW x w))
  have HT := Lib.hid (fun W => (numB_any true W).mono (fun e w' h => (⟨h.1, by rw [h.2]; exact Below.refl _ _⟩ : e = .returned (.int .i64 (numB true)) ∧ Below W.heap.size W w')))
  have hR := Lib.hid (blkR x w)
  have hVV := Lib.hid (blkV x w)
  have hsz := Lib.hid (size_valW x w)
  have hB := Lib.hid (below_valW x w)
  rw [hs, hK] at HG
  simp only [if_true] at HG
  clear hf hs hK
  unfold valW at HG hR hsz hB hVV
  unfold SpanD.cells at HG hR hsz hB ⊢
  go_enter Tryz.func133, Tryz.ntmps133
  go_wp2_with (first
    | (go_at_call 136; (with_reducible refine HG.out.mono ?_); rintro e w1 ⟨rfl, hg⟩; have hV := (Grew.alloc w1 (.cells #[.int .i64 3, .string ⟨#[]⟩, .int .i64 0] 31)).blk (blk_keep hg hVV.out); have v0 : (w1.alloc (.cells #[.int .i64 3, .string ⟨#[]⟩, .int .i64 0] 31)).cell? ⟨w.heap.size, 0, none⟩ = some (.int .i64 x.trace) := cell_blk hV 0 rfl; have v1 : (w1.alloc (.cells #[.int .i64 3, .string ⟨#[]⟩, .int .i64 0] 31)).cell? ⟨w.heap.size, 1, none⟩ = some (.int .i64 x.id) := cell_blk hV 1 rfl; have v2 : (w1.alloc (.cells #[.int .i64 3, .string ⟨#[]⟩, .int .i64 0] 31)).cell? ⟨w.heap.size, 2, none⟩ = some (.int .i64 x.parent) := cell_blk hV 2 rfl; have v3 : (w1.alloc (.cells #[.int .i64 3, .string ⟨#[]⟩, .int .i64 0] 31)).cell? ⟨w.heap.size, 3, none⟩ = some (.int .i64 x.rev) := cell_blk hV 3 rfl; have v4 : (w1.alloc (.cells #[.int .i64 3, .string ⟨#[]⟩, .int .i64 0] 31)).cell? ⟨w.heap.size, 4, none⟩ = some (.int .i64 x.clock) := cell_blk hV 4 rfl; have v5 : (w1.alloc (.cells #[.int .i64 3, .string ⟨#[]⟩, .int .i64 0] 31)).cell? ⟨w.heap.size, 5, none⟩ = some (.int .i64 x.kind) := cell_blk hV 5 rfl; have v6 : (w1.alloc (.cells #[.int .i64 3, .string ⟨#[]⟩, .int .i64 0] 31)).cell? ⟨w.heap.size, 6, none⟩ = some (.string x.svc) := cell_blk hV 6 rfl; have v7 : (w1.alloc (.cells #[.int .i64 3, .string ⟨#[]⟩, .int .i64 0] 31)).cell? ⟨w.heap.size, 7, none⟩ = some (.string x.ver) := cell_blk hV 7 rfl; have v8 : (w1.alloc (.cells #[.int .i64 3, .string ⟨#[]⟩, .int .i64 0] 31)).cell? ⟨w.heap.size, 8, none⟩ = some (.string x.op) := cell_blk hV 8 rfl; have v9 : (w1.alloc (.cells #[.int .i64 3, .string ⟨#[]⟩, .int .i64 0] 31)).cell? ⟨w.heap.size, 9, none⟩ = some (.int .i64 x.st) := cell_blk hV 9 rfl; have v10 : (w1.alloc (.cells #[.int .i64 3, .string ⟨#[]⟩, .int .i64 0] 31)).cell? ⟨w.heap.size, 10, none⟩ = some (.int .i64 x.en) := cell_blk hV 10 rfl; have v11 : (w1.alloc (.cells #[.int .i64 3, .string ⟨#[]⟩, .int .i64 0] 31)).cell? ⟨w.heap.size, 11, none⟩ = some (.bool x.err) := cell_blk hV 11 rfl; have v12 : (w1.alloc (.cells #[.int .i64 3, .string ⟨#[]⟩, .int .i64 0] 31)).cell? ⟨w.heap.size, 12, none⟩ = some (.slice x.aA x.attrs.length x.aC) := cell_blk hV 12 rfl; have v13 : (w1.alloc (.cells #[.int .i64 3, .string ⟨#[]⟩, .int .i64 0] 31)).cell? ⟨w.heap.size, 13, none⟩ = some (.slice x.lA x.links.length x.lC) := cell_blk hV 13 rfl; have hk1 := Lib.hid ((Grew.alloc w1 (.cells #[.int .i64 3, .string ⟨#[]⟩, .int .i64 0] 31)).blk (blk_keep hg hR.out)); have hT1 := Lib.hid (blk_new w1 #[.int .i64 3, .string ⟨#[]⟩, .int .i64 0] 31); have hs1 : Hid (w.heap.size + 2 ≤ w1.heap.size) := Lib.hid (by have h1 := hg.size; have h2 := hsz.out; unfold SpanD.cells at h2; omega); have hg1 := Lib.hid ((hB.out.trans (hg.mono hB.out.size)).alloc (by have := hs1.out; omega) (.cells #[.int .i64 3, .string ⟨#[]⟩, .int .i64 0] 31)); clear hV hg)
    | (go_at_call 83; (with_reducible refine (HT.out _).mono ?_); rintro e w2 ⟨rfl, hg2⟩; have hT2 := blk_keep hg2 hT1.out; have hk2 := blk_keep hg2 hk1.out; have z0 := cell_blk hT2 0 rfl; have z1 := cell_blk hT2 1 rfl; have z2 := cell_blk hT2 2 rfl; have zf := fun i => frozen_blk hT2 i; have y0 := cell_blk hk2 0 rfl; have y1 := cell_blk hk2 1 rfl; have y2 := cell_blk hk2 2 rfl; have hff := fun i => frozen_blk hk2 i; have hne : w.heap.size + 1 ≠ w1.heap.size := (by have := hs1.out; omega); have hg3 := Lib.hid (hg1.out.trans (hg2.mono (by have := hs1.out; simp; omega))); have hT2 := Lib.hid hT2; have hk2 := Lib.hid hk2; clear hg2))
  have hs2 := hs1.out
  refine ret_row_tmp (heap_setCell_same _ _ 2 _ _ _ (heap_setCell_same _ _ 1 _ _ _ (heap_setCell_same _ _ 0 _ _ _ ((heap_setCell_other _ ⟨w1.heap.size, 2, none⟩ _ _ hne).trans hk2.out)))) rfl rfl Tryz.underlying31 rfl (by kernel_rfl) rfl ?_
  exact ⟨rfl, (((hg3.out.setCell (p := ⟨w1.heap.size, 2, none⟩) (by simp; omega) _).setCell (p := ⟨w.heap.size + 1, 0, none⟩) (by simp) _).setCell (p := ⟨w.heap.size + 1, 1, none⟩) (by simp) _).setCell (p := ⟨w.heap.size + 1, 2, none⟩) (by simp) _⟩
set_option maxHeartbeats 8000000 in
set_option maxRecDepth 20000 in
theorem val_root0 (x : SpanD) (f k : ByteArray) (w : World) (hf : ¬ f.toList = [97, 116, 116, 114]) (hs : hasS fieldsL f = true) (hk : k.toList = []) (hK : fkX f = 3) (h3 : f.toList = [114, 111, 111, 116]) (h4 : (x.parent == 0) = false) :
    Calls Tryz.prog 133 #[.agg x.cells.toArray, .string f, .string k] w fun e w' => e = .returned (.tuple #[.agg #[.int .i64 3, .string ⟨#[]⟩, .int .i64 (numB false)], .bool true]) ∧ Below w.heap.size w w' := by
  have HG := Lib.hid (fieldKind_any f (valW x w))
  have HT := Lib.hid (fun W => (numB_any false W).mono (fun e w' h => (⟨h.1, by rw [h.2]; exact Below.refl _ _⟩ : e = .returned (.int .i64 (numB false)) ∧ Below W.heap.size W w')))
  have hR := Lib.hid (blkR x w)
  have hVV := Lib.hid (blkV x w)
  have hsz := Lib.hid (size_valW x w)
  have hB := Lib.hid (below_valW x w)
  rw [hs, hK] at HG
  simp only [if_true] at HG
  clear hf hs hK
  unfold valW at HG hR hsz hB hVV
  unfold SpanD.cells at HG hR hsz hB ⊢
  go_enter Tryz.func133, Tryz.ntmps133
  go_wp2_with (first
    | (go_at_call 136; (with_reducible refine HG.out.mono ?_); rintro e w1 ⟨rfl, hg⟩; have hV := (Grew.alloc w1 (.cells #[.int .i64 3, .string ⟨#[]⟩, .int .i64 0] 31)).blk (blk_keep hg hVV.out); have v0 : (w1.alloc (.cells #[.int .i64 3, .string ⟨#[]⟩, .int .i64 0] 31)).cell? ⟨w.heap.size, 0, none⟩ = some (.int .i64 x.trace) := cell_blk hV 0 rfl; have v1 : (w1.alloc (.cells #[.int .i64 3, .string ⟨#[]⟩, .int .i64 0] 31)).cell? ⟨w.heap.size, 1, none⟩ = some (.int .i64 x.id) := cell_blk hV 1 rfl; have v2 : (w1.alloc (.cells #[.int .i64 3, .string ⟨#[]⟩, .int .i64 0] 31)).cell? ⟨w.heap.size, 2, none⟩ = some (.int .i64 x.parent) := cell_blk hV 2 rfl; have v3 : (w1.alloc (.cells #[.int .i64 3, .string ⟨#[]⟩, .int .i64 0] 31)).cell? ⟨w.heap.size, 3, none⟩ = some (.int .i64 x.rev) := cell_blk hV 3 rfl; have v4 : (w1.alloc (.cells #[.int .i64 3, .string ⟨#[]⟩, .int .i64 0] 31)).cell? ⟨w.heap.size, 4, none⟩ = some (.int .i64 x.clock) := cell_blk hV 4 rfl; have v5 : (w1.alloc (.cells #[.int .i64 3, .string ⟨#[]⟩, .int .i64 0] 31)).cell? ⟨w.heap.size, 5, none⟩ = some (.int .i64 x.kind) := cell_blk hV 5 rfl; have v6 : (w1.alloc (.cells #[.int .i64 3, .string ⟨#[]⟩, .int .i64 0] 31)).cell? ⟨w.heap.size, 6, none⟩ = some (.string x.svc) := cell_blk hV 6 rfl; have v7 : (w1.alloc (.cells #[.int .i64 3, .string ⟨#[]⟩, .int .i64 0] 31)).cell? ⟨w.heap.size, 7, none⟩ = some (.string x.ver) := cell_blk hV 7 rfl; have v8 : (w1.alloc (.cells #[.int .i64 3, .string ⟨#[]⟩, .int .i64 0] 31)).cell? ⟨w.heap.size, 8, none⟩ = some (.string x.op) := cell_blk hV 8 rfl; have v9 : (w1.alloc (.cells #[.int .i64 3, .string ⟨#[]⟩, .int .i64 0] 31)).cell? ⟨w.heap.size, 9, none⟩ = some (.int .i64 x.st) := cell_blk hV 9 rfl; have v10 : (w1.alloc (.cells #[.int .i64 3, .string ⟨#[]⟩, .int .i64 0] 31)).cell? ⟨w.heap.size, 10, none⟩ = some (.int .i64 x.en) := cell_blk hV 10 rfl; have v11 : (w1.alloc (.cells #[.int .i64 3, .string ⟨#[]⟩, .int .i64 0] 31)).cell? ⟨w.heap.size, 11, none⟩ = some (.bool x.err) := cell_blk hV 11 rfl; have v12 : (w1.alloc (.cells #[.int .i64 3, .string ⟨#[]⟩, .int .i64 0] 31)).cell? ⟨w.heap.size, 12, none⟩ = some (.slice x.aA x.attrs.length x.aC) := cell_blk hV 12 rfl; have v13 : (w1.alloc (.cells #[.int .i64 3, .string ⟨#[]⟩, .int .i64 0] 31)).cell? ⟨w.heap.size, 13, none⟩ = some (.slice x.lA x.links.length x.lC) := cell_blk hV 13 rfl; have hk1 := Lib.hid ((Grew.alloc w1 (.cells #[.int .i64 3, .string ⟨#[]⟩, .int .i64 0] 31)).blk (blk_keep hg hR.out)); have hT1 := Lib.hid (blk_new w1 #[.int .i64 3, .string ⟨#[]⟩, .int .i64 0] 31); have hs1 : Hid (w.heap.size + 2 ≤ w1.heap.size) := Lib.hid (by have h1 := hg.size; have h2 := hsz.out; unfold SpanD.cells at h2; omega); have hg1 := Lib.hid ((hB.out.trans (hg.mono hB.out.size)).alloc (by have := hs1.out; omega) (.cells #[.int .i64 3, .string ⟨#[]⟩, .int .i64 0] 31)); clear hV hg)
    | (go_at_call 83; (with_reducible refine (HT.out _).mono ?_); rintro e w2 ⟨rfl, hg2⟩; have hT2 := blk_keep hg2 hT1.out; have hk2 := blk_keep hg2 hk1.out; have z0 := cell_blk hT2 0 rfl; have z1 := cell_blk hT2 1 rfl; have z2 := cell_blk hT2 2 rfl; have zf := fun i => frozen_blk hT2 i; have y0 := cell_blk hk2 0 rfl; have y1 := cell_blk hk2 1 rfl; have y2 := cell_blk hk2 2 rfl; have hff := fun i => frozen_blk hk2 i; have hne : w.heap.size + 1 ≠ w1.heap.size := (by have := hs1.out; omega); have hg3 := Lib.hid (hg1.out.trans (hg2.mono (by have := hs1.out; simp; omega))); have hT2 := Lib.hid hT2; have hk2 := Lib.hid hk2; clear hg2))
  have hs2 := hs1.out
  refine ret_row_tmp (heap_setCell_same _ _ 2 _ _ _ (heap_setCell_same _ _ 1 _ _ _ (heap_setCell_same _ _ 0 _ _ _ ((heap_setCell_other _ ⟨w1.heap.size, 2, none⟩ _ _ hne).trans hk2.out)))) rfl rfl Tryz.underlying31 rfl (by kernel_rfl) rfl ?_
  exact ⟨rfl, (((hg3.out.setCell (p := ⟨w1.heap.size, 2, none⟩) (by simp; omega) _).setCell (p := ⟨w.heap.size + 1, 0, none⟩) (by simp) _).setCell (p := ⟨w.heap.size + 1, 1, none⟩) (by simp) _).setCell (p := ⟨w.heap.size + 1, 2, none⟩) (by simp) _⟩
end Go.Proofs.YtnddlpfmagdbfaaGreatDoor
/- Contract: the value of a field, joined. -/
namespace Go.Proofs.YtnddlpfmagdbfaaGreatDoor
open Go Go.Proofs Go.RowKit
set_option linter.unusedVariables false
set_option linter.unusedSimpArgs false
def valV (v : (Int × ByteArray × Int) × Bool) : Value := .tuple #[.agg #[.int .i64 v.1.1, .string v.1.2.1, .int .i64 v.1.2.2], .bool v.2]
theorem val_any (x : SpanD) (f k : ByteArray) (w : World) (hx : x.Held w) (hl : x.attrs.length ≤ 1000000) :
    Calls Tryz.prog 133 #[.agg x.cells.toArray, .string f, .string k] w fun e w' => e = .returned (valV (valX x f k)) ∧ Below w.heap.size w w' := by
  unfold valX
  by_cases hf : f.toList = [97, 116, 116, 114]
  · rw [if_pos hf]
    exact val_attr x f k w hx hl hf
  · rw [if_neg hf]
    by_cases hk : hasS fieldsL f = false ∨ k.toList ≠ []
    · rw [if_pos hk]
      exact val_none x f k w hf hk
    · rw [if_neg hk]
      have hs : hasS fieldsL f = true := by
        cases h : hasS fieldsL f
        · exact absurd (.inl h) hk
        · rfl
      have hk2 : k.toList = [] := by
        by_cases h : k.toList = []
        · exact h
        · exact absurd (.inr h) hk
      by_cases h1 : fkX f = 1
      · rw [if_pos h1]
        exact val_text x f k w hf hs hk2 h1
      · rw [if_neg h1]
        by_cases h2 : fkX f = 2
        · rw [if_pos h2]
          exact val_num x f k w hf hs hk2 h2
        · rw [if_neg h2]
          have h3 : fkX f = 3 := by
            revert h1 h2
            unfold fkX
            split
            · simp
            · split <;> simp
          have h4 : f.toList = [101, 114, 114, 111, 114] ∨ f.toList = [114, 111, 111, 116] := by
            revert h3
            unfold fkX
            split
            · simp
            · split
              · rename_i h; intro _; exact h
              · simp
          rcases h4 with h4 | h4
          · cases he : x.err
            · have : boolX x f = false := by unfold boolX; rw [h4, he]; rfl
              rw [this]
              exact val_err0 x f k w hf hs hk2 h3 h4 he
            · have : boolX x f = true := by unfold boolX; rw [h4, he]; rfl
              rw [this]
              exact val_err1 x f k w hf hs hk2 h3 h4 he
          · cases he : x.parent == 0
            · have : boolX x f = false := by unfold boolX; rw [h4, he]; rfl
              rw [this]
              exact val_root0 x f k w hf hs hk2 h3 h4 he
            · have : boolX x f = true := by unfold boolX; rw [h4, he]; rfl
              rw [this]
              exact val_root1 x f k w hf hs hk2 h3 h4 he
/-- A test of a value. -/
structure TestD where
  op : Int
  field : ByteArray
  key : ByteArray
  kind : Int
  text : ByteArray
  num : Int
def satX (p : TestD) (v : Int × ByteArray × Int) : Bool :=
  if v.1 ≠ p.kind then false
  else if p.op = 5 then (v.1 == p.kind && v.2.1.toList == p.text.toList && v.2.2 == p.num)
  else if p.op = 6 then decide (orI [cmpI v.1 p.kind, cmpS v.2.1 p.text, cmpI v.2.2 p.num] < 0)
  else preS v.2.1 p.text
set_option maxHeartbeats 4000000 in
set_option maxRecDepth 20000 in
theorem sat_any (p : TestD) (A : Option Addr) (n c : Nat) (k : Int) (t : ByteArray) (m : Int) (w : World) (ht : t.size ≤ 9223372036854775807) (hp : p.text.size ≤ 9223372036854775807) :
    Calls Tryz.prog 77 #[.agg #[.int .i64 p.op, .string p.field, .string p.key, .int .i64 p.kind, .string p.text, .int .i64 p.num, .slice A n c], .agg #[.int .i64 k, .string t, .int .i64 m]] w fun e w' => e = .returned (.bool (satX p (k, t, m))) ∧ Below w.heap.size w w' := by
  have hB := fun a b a' b' => Lib.hid (((Below.refl _ w).alloc (Nat.le_refl _) (.cells a b)).alloc (by simp) (.cells a' b'))
  by_cases h1 : k = p.kind
  · subst h1
    by_cases h5 : p.op = 5
    · have hv : Hid (satX p (p.kind, t, m) = (t.toList == p.text.toList && m == p.num)) := Lib.hid (by unfold satX; simp [h5])
      have h5b : (p.op == 5) = true := by rw [h5]; rfl
      clear h5
      go_enter Tryz.func77, Tryz.ntmps77
      go_wp2
      all_goals
        go_ret
        refine ⟨?_, (hB _ _ _ _).out⟩
        rw [hv.out]
        simp_all
    · by_cases h6 : p.op = 6
      · have hv : Hid (satX p (p.kind, t, m) = decide (cmpV ⟨⟨#[]⟩, p.kind, t, m⟩ ⟨⟨#[]⟩, p.kind, p.text, p.num⟩ < 0)) := Lib.hid (by unfold satX cmpV; simp [h6])
        have h5b : (p.op == 5) = false := by rw [h6]; rfl
        have h6b : (p.op == 6) = true := by rw [h6]; rfl
        have hc := Lib.hid (cmpV_any ⟨⟨#[]⟩, p.kind, t, m⟩ ⟨⟨#[]⟩, p.kind, p.text, p.num⟩)
        generalize cmpV ⟨⟨#[]⟩, p.kind, t, m⟩ ⟨⟨#[]⟩, p.kind, p.text, p.num⟩ = r at *
        clear h5 h6
        go_enter Tryz.func77, Tryz.ntmps77
        go_wp2_with (first
          | (go_at_call 92; (with_reducible refine (hc.out _).mono ?_); rintro e w' ⟨rfl, hg⟩; have hg := Lib.hid hg))
        go_ret
        exact ⟨by rw [hv.out]; rfl, (hB _ _ _ _).out.trans (hg.out.b.mono (by simp; omega))⟩
      · have hv : Hid (satX p (p.kind, t, m) = preS t p.text) := Lib.hid (by unfold satX; simp [h5, h6])
        have h5b : (p.op == 5) = false := by rw [beq_eq_false_iff_ne]; exact h5
        have h6b : (p.op == 6) = false := by rw [beq_eq_false_iff_ne]; exact h6
        have hc := Lib.hid (fun W => prefixS_any t p.text W ht hp)
        clear h5 h6
        go_enter Tryz.func77, Tryz.ntmps77
        go_wp2_with (first
          | (go_at_call 93; (with_reducible refine (hc.out _).mono ?_); rintro e w' ⟨rfl, rfl⟩))
        go_ret
        exact ⟨by rw [hv.out]; rfl, (hB _ _ _ _).out⟩
  · have hv : Hid (satX p (k, t, m) = false) := Lib.hid (by unfold satX; rw [if_pos h1])
    have h1b : (k != p.kind) = true := by rw [bne_iff_ne]; exact h1
    clear h1
    go_enter Tryz.func77, Tryz.ntmps77
    go_wp2
    all_goals
      go_ret
      refine ⟨?_, (hB _ _ _ _).out⟩
      rw [hv.out]
      rfl
end Go.Proofs.YtnddlpfmagdbfaaGreatDoor
/- Contracts: a function that is true of an element of a list of predicates. -/
namespace Go.Proofs.YtnddlpfmagdbfaaGreatDoor
open Go Go.Proofs Go.RowKit
set_option linter.unusedVariables false
set_option linter.unusedSimpArgs false
/-- A predicate. -/
inductive PredD where
  | mk (t : TestD) (A : Option Addr) (c : Nat) (args : List PredD)
def PredD.t : PredD → TestD | .mk t _ _ _ => t
def PredD.A : PredD → Option Addr | .mk _ A _ _ => A
def PredD.c : PredD → Nat | .mk _ _ c _ => c
def PredD.args : PredD → List PredD | .mk _ _ _ l => l
def PredD.cells (p : PredD) : List Value := [.int .i64 p.t.op, .string p.t.field, .string p.t.key, .int .i64 p.t.kind, .string p.t.text, .int .i64 p.t.num, .slice p.A p.args.length p.c]
/-- A predicate lies at an address. -/
structure PredIs (W : World) (a : Addr) (p : PredD) : Prop where
  c0 : W.cell? a = some (.int .i64 p.t.op)
  c1 : W.cell? ⟨a.block, a.off + 1, none⟩ = some (.string p.t.field)
  c2 : W.cell? ⟨a.block, a.off + 2, none⟩ = some (.string p.t.key)
  c3 : W.cell? ⟨a.block, a.off + 3, none⟩ = some (.int .i64 p.t.kind)
  c4 : W.cell? ⟨a.block, a.off + 4, none⟩ = some (.string p.t.text)
  c5 : W.cell? ⟨a.block, a.off + 5, none⟩ = some (.int .i64 p.t.num)
  c6 : W.cell? ⟨a.block, a.off + 6, none⟩ = some (.slice p.A p.args.length p.c)
theorem PredIs.below {W W' : World} {a : Addr} {p : PredD} (h : PredIs W a p) (k : Below W.heap.size W W') : PredIs W' a p := by
  have c : ∀ {p : Addr} {v : Value}, W.cell? p = some v → W'.cell? p = some v := fun hc => (k.cell (World.block_lt_of_cell? W _ hc)).trans hc
  exact ⟨c h.c0, c h.c1, c h.c2, c h.c3, c h.c4, c h.c5, c h.c6⟩
def PredsAt (W : World) (a : Option Addr) (L : List PredD) : Prop := ∀ j (h : j < L.length), ∃ ad, a = some ad ∧ PredIs W (ad.add (j * 7)) L[j]
theorem PredsAt.below {W W' : World} {a : Option Addr} {L : List PredD} (h : PredsAt W a L) (k : Below W.heap.size W W') : PredsAt W' a L := fun j hj =>
  let ⟨ad, h1, h2⟩ := h j hj
  ⟨ad, h1, h2.below k⟩
def anyI (r : Nat → Bool) (n : Nat) : Bool := (List.range n).any r
theorem anyI_false {r : Nat → Bool} {n : Nat} (h : ∀ j, j < n → r j = false) : anyI r n = false := by
  unfold anyI
  rw [List.any_eq_false]
  intro j hj
  rw [h j (List.mem_range.1 hj)]
  simp
theorem anyI_true {r : Nat → Bool} {n j : Nat} (hj : j < n) (h : r j = true) : anyI r n = true := by
  unfold anyI
  rw [List.any_eq_true]
  exact ⟨j, List.mem_range.2 hj, h⟩
set_option maxHeartbeats 2000000 in
theorem indexP_any (a : Option Addr) (L : List PredD) (c n : Nat) (hn : n = L.length) (P : Option Addr) (r : Nat → Bool) (w : World) (h : PredsAt w a L) (hl : L.length ≤ 1000000)
    (hk : ∀ j (h : j < L.length) W, Below w.heap.size w W → Calls Tryz.prog 74 #[.agg L[j].cells.toArray, .pointer P] W fun e w' => e = .returned (.bool (r j)) ∧ Below W.heap.size W w') :
    Calls Tryz.prog 91 #[.slice a n c, .func (.func 74) #[] #[.pointer P]] w fun e w' => (∃ i : Int, e = .returned (.int .i64 i) ∧ decide (0 ≤ i) = anyI r L.length) ∧ Below w.heap.size w w' := by
  subst hn
  have HR := Lib.hid h
  have HK := Lib.hid hk
  clear h hk
  go_enter Tryz.func91, Tryz.ntmps91
  go_wp2_with fail
  go_loopw [5, 8] (fun t i wr => ∃ j : Nat, j ≤ L.length ∧ i = .int .i64 j ∧ Hid (∀ m, m < j → r m = false) ∧ Hid (Below w.heap.size w wr)) (fun _ i _ => L.length - (intOf i).toNat)
  case atStart => exact ⟨0, by omega, rfl, Lib.hid (fun m hm => by omega), Lib.hid (Below.refl _ _)⟩
  case round =>
    obtain ⟨j, hj, rfl, hG, hW⟩ := hrel
    by_cases hlt : j < L.length
    · have hlt2 : decide (j < L.length) = true := decide_eq_true hlt
      obtain ⟨ad, rfl, g0, g1, g2, g3, g4, g5, g6⟩ := (HR.out.below hW.out) j hlt
      have hc := Lib.hid (HK.out j hlt wr hW.out)
      generalize L[j] = x at *
      unfold PredD.cells at hc
      cases hr : r j
      · have hn : Hid (∀ m, m < j + 1 → r m = false) := Lib.hid (fun m hm => by
          by_cases hmj : m = j
          · subst hmj; exact hr
          · exact hG.out m (by omega))
        rw [hr] at hc
        clear hr
        go_wp2_with (first
          | (go_at_call 74; (with_reducible refine hc.out.mono ?_); rintro e w' ⟨rfl, hb⟩; have hb := Lib.hid hb))
        exact ⟨⟨j + 1, by omega, by go_num, hn, Lib.hid (hW.out.trans (hb.out.mono hW.out.size))⟩, by simp [intOf]; omega⟩
      · have hn := Lib.hid (anyI_true hlt hr)
        rw [hr] at hc
        clear hr
        go_wp2_with (first
          | (go_at_call 74; (with_reducible refine hc.out.mono ?_); rintro e w' ⟨rfl, hb⟩; have hb := Lib.hid hb))
        go_ret
        exact ⟨⟨_, rfl, by rw [hn.out]; simp⟩, hW.out.trans (hb.out.mono hW.out.size)⟩
    · obtain rfl : j = L.length := by omega
      have hlt2 : decide (L.length < L.length) = false := decide_eq_false hlt
      have hn := Lib.hid (anyI_false hG.out)
      go_wp2_with fail
      go_ret
      exact ⟨⟨_, rfl, by rw [hn.out]; simp⟩, hW.out⟩
theorem containsP_any (a : Option Addr) (L : List PredD) (c n : Nat) (hn : n = L.length) (P : Option Addr) (r : Nat → Bool) (w : World) (h : PredsAt w a L) (hl : L.length ≤ 1000000)
    (hk : ∀ j (h : j < L.length) W, Below w.heap.size w W → Calls Tryz.prog 74 #[.agg L[j].cells.toArray, .pointer P] W fun e w' => e = .returned (.bool (r j)) ∧ Below W.heap.size W w') :
    Calls Tryz.prog 75 #[.slice a n c, .func (.func 74) #[] #[.pointer P]] w fun e w' => e = .returned (.bool (anyI r L.length)) ∧ Below w.heap.size w w' := by
  have hi := Lib.hid (indexP_any a L c n hn P r w h hl hk)
  clear hn h hk
  go_enter Tryz.func75, Tryz.ntmps75
  go_wp2_with (first
    | (go_at_call 91; (with_reducible refine hi.out.mono ?_); rintro e w' ⟨⟨i, rfl, hr⟩, hb⟩; have hr := Lib.hid hr; have hb := Lib.hid hb))
  go_ret
  exact ⟨by rw [← hr.out]; rfl, hb.out⟩
set_option maxHeartbeats 2000000 in
theorem indexQ_any (a : Option Addr) (L : List PredD) (c n : Nat) (hn : n = L.length) (P : Option Addr) (r : Nat → Bool) (w : World) (h : PredsAt w a L) (hl : L.length ≤ 1000000)
    (hk : ∀ j (h : j < L.length) W, Below w.heap.size w W → Calls Tryz.prog 76 #[.agg L[j].cells.toArray, .pointer P] W fun e w' => e = .returned (.bool (r j)) ∧ Below W.heap.size W w') :
    Calls Tryz.prog 91 #[.slice a n c, .func (.func 76) #[] #[.pointer P]] w fun e w' => (∃ i : Int, e = .returned (.int .i64 i) ∧ decide (0 ≤ i) = anyI r L.length) ∧ Below w.heap.size w w' := by
  subst hn
  have HR := Lib.hid h
  have HK := Lib.hid hk
  clear h hk
  go_enter Tryz.func91, Tryz.ntmps91
  go_wp2_with fail
  go_loopw [5, 8] (fun t i wr => ∃ j : Nat, j ≤ L.length ∧ i = .int .i64 j ∧ Hid (∀ m, m < j → r m = false) ∧ Hid (Below w.heap.size w wr)) (fun _ i _ => L.length - (intOf i).toNat)
  case atStart => exact ⟨0, by omega, rfl, Lib.hid (fun m hm => by omega), Lib.hid (Below.refl _ _)⟩
  case round =>
    obtain ⟨j, hj, rfl, hG, hW⟩ := hrel
    by_cases hlt : j < L.length
    · have hlt2 : decide (j < L.length) = true := decide_eq_true hlt
      obtain ⟨ad, rfl, g0, g1, g2, g3, g4, g5, g6⟩ := (HR.out.below hW.out) j hlt
      have hc := Lib.hid (HK.out j hlt wr hW.out)
      generalize L[j] = x at *
      unfold PredD.cells at hc
      cases hr : r j
      · have hn : Hid (∀ m, m < j + 1 → r m = false) := Lib.hid (fun m hm => by
          by_cases hmj : m = j
          · subst hmj; exact hr
          · exact hG.out m (by omega))
        rw [hr] at hc
        clear hr
        go_wp2_with (first
          | (go_at_call 76; (with_reducible refine hc.out.mono ?_); rintro e w' ⟨rfl, hb⟩; have hb := Lib.hid hb))
        exact ⟨⟨j + 1, by omega, by go_num, hn, Lib.hid (hW.out.trans (hb.out.mono hW.out.size))⟩, by simp [intOf]; omega⟩
      · have hn := Lib.hid (anyI_true hlt hr)
        rw [hr] at hc
        clear hr
        go_wp2_with (first
          | (go_at_call 76; (with_reducible refine hc.out.mono ?_); rintro e w' ⟨rfl, hb⟩; have hb := Lib.hid hb))
        go_ret
        exact ⟨⟨_, rfl, by rw [hn.out]; simp⟩, hW.out.trans (hb.out.mono hW.out.size)⟩
    · obtain rfl : j = L.length := by omega
      have hlt2 : decide (L.length < L.length) = false := decide_eq_false hlt
      have hn := Lib.hid (anyI_false hG.out)
      go_wp2_with fail
      go_ret
      exact ⟨⟨_, rfl, by rw [hn.out]; simp⟩, hW.out⟩
theorem containsQ_any (a : Option Addr) (L : List PredD) (c n : Nat) (hn : n = L.length) (P : Option Addr) (r : Nat → Bool) (w : World) (h : PredsAt w a L) (hl : L.length ≤ 1000000)
    (hk : ∀ j (h : j < L.length) W, Below w.heap.size w W → Calls Tryz.prog 76 #[.agg L[j].cells.toArray, .pointer P] W fun e w' => e = .returned (.bool (r j)) ∧ Below W.heap.size W w') :
    Calls Tryz.prog 75 #[.slice a n c, .func (.func 76) #[] #[.pointer P]] w fun e w' => e = .returned (.bool (anyI r L.length)) ∧ Below w.heap.size w w' := by
  have hi := Lib.hid (indexQ_any a L c n hn P r w h hl hk)
  clear hn h hk
  go_enter Tryz.func75, Tryz.ntmps75
  go_wp2_with (first
    | (go_at_call 91; (with_reducible refine hi.out.mono ?_); rintro e w' ⟨⟨i, rfl, hr⟩, hb⟩; have hr := Lib.hid hr; have hb := Lib.hid hb))
  go_ret
  exact ⟨by rw [← hr.out]; rfl, hb.out⟩
end Go.Proofs.YtnddlpfmagdbfaaGreatDoor
/- Contract: does a span satisfy a predicate? -/
namespace Go.Proofs.YtnddlpfmagdbfaaGreatDoor
open Go Go.Proofs Go.RowKit
set_option linter.unusedVariables false
set_option linter.unusedSimpArgs false
/-- Does a span satisfy a predicate (of so many levels at most)? -/
def holdsX : Nat → PredD → SpanD → Bool
  | 0, _, _ => false
  | n + 1, p, x =>
    if p.t.op = 0 then true
    else if p.t.op = 1 then !(anyI (fun j => match p.args[j]? with | some q => !(holdsX n q x) | none => false) p.args.length)
    else if p.t.op = 2 then anyI (fun j => match p.args[j]? with | some q => holdsX n q x | none => false) p.args.length
    else if p.t.op = 3 then !(match p.args[0]? with | some q => holdsX n q x | none => false)
    else if p.t.op = 4 then (valX x ⟨#[97, 116, 116, 114]⟩ p.t.key).2
    else (valX x p.t.field p.t.key).2 && satX p.t (valX x p.t.field p.t.key).1
def PredOK : Nat → World → PredD → Prop
  | 0, _, _ => False
  | n + 1, W, p => (PredsAt W p.A p.args ∧ p.args.length ≤ 1000000 ∧ p.t.text.size ≤ 9223372036854775807 ∧ (p.t.op = 3 → 0 < p.args.length)) ∧ ∀ q, q ∈ p.args → PredOK n W q
/-- A predicate of so many levels lies there. -/
def PredLie : Nat → World → PredD → Prop
  | 0, _, _ => False
  | n + 1, W, p => (PredsAt W p.A p.args ∧ p.args.length ≤ 1000000 ∧ p.t.text.size ≤ 9223372036854775807) ∧ ∀ q, q ∈ p.args → PredLie n W q
theorem PredLie.below : ∀ {n : Nat} {W W' : World} {p : PredD}, PredLie n W p → Below W.heap.size W W' → PredLie n W' p
  | 0, _, _, _, h, _ => h
  | n + 1, _, _, _, h, k => ⟨⟨h.1.1.below k, h.1.2⟩, fun q hq => (h.2 q hq).below k⟩
theorem PredOK.lie : ∀ {n : Nat} {W : World} {p : PredD}, PredOK n W p → PredLie n W p
  | 0, _, _, h => h
  | n + 1, _, _, h => ⟨⟨h.1.1, h.1.2.1, h.1.2.2.1⟩, fun q hq => (h.2 q hq).lie⟩
theorem PredOK.below : ∀ {n : Nat} {W W' : World} {p : PredD}, PredOK n W p → Below W.heap.size W W' → PredOK n W' p
  | 0, _, _, _, h, _ => h
  | n + 1, _, _, _, h, k => ⟨⟨h.1.1.below k, h.1.2⟩, fun q hq => (h.2 q hq).below k⟩
/-- A span whose strings are no longer than strings can be. -/
structure SpanD.Str (x : SpanD) : Prop where
  svc : x.svc.size ≤ 9223372036854775807
  ver : x.ver.size ≤ 9223372036854775807
  op : x.op.size ≤ 9223372036854775807
  attrs : ∀ a ∈ x.attrs, a.text.size ≤ 9223372036854775807
  na : x.attrs.length ≤ 1000000
/-- A span whose strings are no longer than strings can be, with any number of attributes. -/
structure SpanD.Txt (x : SpanD) : Prop where
  svc : x.svc.size ≤ 9223372036854775807
  ver : x.ver.size ≤ 9223372036854775807
  op : x.op.size ≤ 9223372036854775807
  attrs : ∀ a ∈ x.attrs, a.key.size ≤ 9223372036854775807 ∧ a.text.size ≤ 9223372036854775807
theorem SpanD.Txt.str {x : SpanD} (h : x.Txt) (hn : x.attrs.length ≤ 1000000) : x.Str := ⟨h.svc, h.ver, h.op, fun a ha => (h.attrs a ha).2, hn⟩
theorem val_size {x : SpanD} (h : x.Str) (f k : ByteArray) : (valX x f k).1.2.1.size ≤ 9223372036854775807 := by
  unfold valX
  split
  · show (getX x.attrs k).2.1.size ≤ _
    unfold getX
    split
    · rename_i hx
      unfold hasX at hx
      simp only [Bool.and_eq_true, decide_eq_true_eq] at hx
      rw [ga_eq hx.1]
      exact h.attrs _ (List.getElem_mem _)
    · decide
  · split
    · decide
    · split
      · show (textX x f).size ≤ _
        unfold textX
        split
        · unfold kindX
          repeat' split
          all_goals decide
        · split
          · exact h.op
          · split
            · exact h.svc
            · exact h.ver
      · split <;> exact Nat.zero_le _
/-- The contract of Holds at predicates of n levels. -/
def HoldsC (n : Nat) : Prop := ∀ (p : PredD) (x : SpanD) (w : World), PredOK n w p → x.Held w → x.Str →
  Calls Tryz.prog 59 #[.agg p.cells.toArray, .iface 118 (.agg x.cells.toArray)] w fun e w' => e = .returned (.bool (holdsX n p x)) ∧ Below w.heap.size w w'
set_option maxHeartbeats 2000000 in
theorem hold1_any {n : Nat} (ih : HoldsC n) (q : PredD) (x : SpanD) (b : Nat) (w : World) (hq : PredOK n w q) (hx : x.Held w) (hs : x.Str) (hb : w.cell? ⟨b, 0, none⟩ = some (.iface 118 (.agg x.cells.toArray))) :
    Calls Tryz.prog 74 #[.agg q.cells.toArray, .pointer (some ⟨b, 0, none⟩)] w fun e w' => e = .returned (.bool (holdsX n q x)) ∧ Below w.heap.size w w' := by
  have hc := Lib.hid (ih q x (w.alloc (.cells q.cells.toArray 34)) (hq.below ((Below.refl _ _).alloc (Nat.le_refl _) _)) (hx.grew (Grew.alloc _ _)) hs)
  have hb1 := (Grew.alloc w (.cells q.cells.toArray 34)).cell hb
  unfold PredD.cells at hc hb1 ⊢
  clear hb
  go_enter Tryz.func74, Tryz.ntmps74
  go_wp2_with (first
    | (go_at_call 59; (with_reducible refine hc.out.mono ?_); rintro e w' ⟨rfl, hg⟩; have hg := Lib.hid hg))
  go_ret
  exact ⟨rfl, ((Below.refl _ w).alloc (Nat.le_refl _) _).trans (hg.out.mono (by simp))⟩
set_option maxHeartbeats 2000000 in
theorem hold2_any {n : Nat} (ih : HoldsC n) (q : PredD) (x : SpanD) (b b2 : Nat) (w : World) (hq : PredOK n w q) (hx : x.Held w) (hs : x.Str) (hb : w.cell? ⟨b, 0, none⟩ = some (.iface 118 (.agg x.cells.toArray))) (hb2 : w.cell? ⟨b2, 0, none⟩ = some (.func (.func 74) #[] #[.pointer (some ⟨b, 0, none⟩)])) :
    Calls Tryz.prog 76 #[.agg q.cells.toArray, .pointer (some ⟨b2, 0, none⟩)] w fun e w' => e = .returned (.bool (!(holdsX n q x))) ∧ Below w.heap.size w w' := by
  have hc := Lib.hid (hold1_any ih q x b (w.alloc (.cells q.cells.toArray 34)) (hq.below ((Below.refl _ _).alloc (Nat.le_refl _) _)) (hx.grew (Grew.alloc _ _)) hs ((Grew.alloc _ _).cell hb))
  have hb1 := (Grew.alloc w (.cells q.cells.toArray 34)).cell hb2
  unfold PredD.cells at hc hb1 ⊢
  clear hb hb2
  go_enter Tryz.func76, Tryz.ntmps76
  go_wp2_with (first
    | (go_at_call 74; (with_reducible refine hc.out.mono ?_); rintro e w' ⟨rfl, hg⟩; have hg := Lib.hid hg))
  go_ret
  exact ⟨rfl, ((Below.refl _ w).alloc (Nat.le_refl _) _).trans (hg.out.mono (by simp))⟩
/-- The world in which Holds works. -/
def holdW (p : PredD) (x : SpanD) (w : World) : World := ((w.alloc (.cells p.cells.toArray 34)).alloc (.cells #[.iface 118 (.agg x.cells.toArray)] 141)).alloc (.cells #[.func (.func 74) #[] #[.pointer (some ⟨w.heap.size + 1, 0, none⟩)]] 126)
structure HoldW (p : PredD) (x : SpanD) (w W : World) : Prop where
  g : Below w.heap.size w W
  s : w.heap.size + 3 ≤ W.heap.size
  p : W.heap[w.heap.size]? = some (.cells p.cells.toArray 34 (0, 0))
  i : W.cell? ⟨w.heap.size + 1, 0, none⟩ = some (.iface 118 (.agg x.cells.toArray))
  f : W.cell? ⟨w.heap.size + 1 + 1, 0, none⟩ = some (.func (.func 74) #[] #[.pointer (some ⟨w.heap.size + 1, 0, none⟩)])
theorem HoldW.start (p : PredD) (x : SpanD) (w : World) : HoldW p x w (holdW p x w) := by
  unfold holdW
  refine ⟨(((Below.refl _ w).alloc (Nat.le_refl _) _).alloc (by simp) _).alloc (by simp; omega) _, by simp, ?_, ?_, ?_⟩
  · exact ((Grew.alloc _ _).trans (Grew.alloc _ _)).blk (blk_new _ _ _)
  · exact (Grew.alloc _ _).cell (cell_new _ _ _ _ _ _ (by simp) rfl)
  · exact cell_new _ _ _ _ _ _ (by simp) rfl
theorem HoldW.below {p : PredD} {x : SpanD} {w W W' : World} (h : HoldW p x w W) (k : Below W.heap.size W W') : HoldW p x w W' := by
  have c : ∀ {p : Addr} {v : Value}, W.cell? p = some v → W'.cell? p = some v := fun hc => (k.cell (World.block_lt_of_cell? W _ hc)).trans hc
  exact ⟨h.g.trans (k.mono h.g.size), Nat.le_trans h.s k.size, blk_keep k h.p, c h.i, c h.f⟩
end Go.Proofs.YtnddlpfmagdbfaaGreatDoor
/- Contract: does a span satisfy a predicate? By its operation. -/
namespace Go.Proofs.YtnddlpfmagdbfaaGreatDoor
open Go Go.Proofs Go.RowKit
set_option linter.unusedVariables false
set_option linter.unusedSimpArgs false
set_option maxHeartbeats 4000000 in
set_option maxRecDepth 20000 in
theorem holds_true {n : Nat} (ih : HoldsC n) (p : PredD) (x : SpanD) (w : World) (hp : PredOK (n + 1) w p) (hx : x.Held w) (hs : x.Str) (ho : p.t.op = 0) :
    Calls Tryz.prog 59 #[.agg p.cells.toArray, .iface 118 (.agg x.cells.toArray)] w fun e w' => e = .returned (.bool (holdsX (n + 1) p x)) ∧ Below w.heap.size w w' := by
  have hS := HoldW.start p x w
  have hv : Hid (holdsX (n + 1) p x = true) := Lib.hid (by rw [holdsX, if_pos ho])
  have q0 : (p.t.op == 0) = true := by rw [ho]; rfl
  have q1 : (p.t.op == 1) = false := by rw [ho]; rfl
  have q2 : (p.t.op == 2) = false := by rw [ho]; rfl
  have q3 : (p.t.op == 3) = false := by rw [ho]; rfl
  have q4 : (p.t.op == 4) = false := by rw [ho]; rfl
  clear ho
  unfold holdW at hS
  generalize hcx : Value.agg x.cells.toArray = vx at *
  unfold PredD.cells at hS ⊢
  have HS := Lib.hid hS
  clear hS hp hx
  go_enter Tryz.func59, Tryz.ntmps59
  go_wp2_with fail
  go_ret
  exact ⟨by rw [hv.out]; rfl, HS.out.g⟩
set_option maxHeartbeats 4000000 in
set_option maxRecDepth 20000 in
theorem holds_and {n : Nat} (ih : HoldsC n) (p : PredD) (x : SpanD) (w : World) (hp : PredOK (n + 1) w p) (hx : x.Held w) (hs : x.Str) (ho : p.t.op = 1) :
    Calls Tryz.prog 59 #[.agg p.cells.toArray, .iface 118 (.agg x.cells.toArray)] w fun e w' => e = .returned (.bool (holdsX (n + 1) p x)) ∧ Below w.heap.size w w' := by
  have hS := HoldW.start p x w
  have hv : Hid (holdsX (n + 1) p x = !(anyI (fun j => match p.args[j]? with | some q => !(holdsX n q x) | none => false) p.args.length)) := Lib.hid (by rw [holdsX, if_neg (by omega), if_pos ho] <;> exact congrArg (fun f => !(anyI f p.args.length)) (funext fun j => by cases p.args[j]? <;> rfl))
  have hc := Lib.hid (fun W (h : HoldW p x w W) => containsQ_any p.A p.args p.c p.args.length rfl (some ⟨w.heap.size + 1 + 1, 0, none⟩) (fun j => match p.args[j]? with | some q => !(holdsX n q x) | none => false) W (hp.1.1.below h.g) hp.1.2.1 (fun j hj W' hW => by
    rw [List.getElem?_eq_getElem hj]
    have h2 := h.below hW
    exact hold2_any ih _ x _ _ W' ((hp.2 _ (List.getElem_mem hj)).below h2.g) (hx.keeps W' h2.g) hs h2.i h2.f))
  generalize anyI (fun j => match p.args[j]? with | some q => !(holdsX n q x) | none => false) p.args.length = r at *
  have q0 : (p.t.op == 0) = false := by rw [ho]; rfl
  have q1 : (p.t.op == 1) = true := by rw [ho]; rfl
  have q2 : (p.t.op == 2) = false := by rw [ho]; rfl
  have q3 : (p.t.op == 3) = false := by rw [ho]; rfl
  have q4 : (p.t.op == 4) = false := by rw [ho]; rfl
  clear ho
  unfold holdW at hS
  generalize hcx : Value.agg x.cells.toArray = vx at *
  unfold PredD.cells at hS ⊢
  have HS := Lib.hid hS
  clear hS hp hx
  go_enter Tryz.func59, Tryz.ntmps59
  go_wp2_with (first
    | (go_at_call 75; (with_reducible refine (hc.out _ HS.out).mono ?_); rintro e w' ⟨rfl, hg⟩; have hg := Lib.hid hg))
  go_ret
  exact ⟨by rw [hv.out]; rfl, (HS.out.below hg.out).g⟩
set_option maxHeartbeats 4000000 in
set_option maxRecDepth 20000 in
theorem holds_or {n : Nat} (ih : HoldsC n) (p : PredD) (x : SpanD) (w : World) (hp : PredOK (n + 1) w p) (hx : x.Held w) (hs : x.Str) (ho : p.t.op = 2) :
    Calls Tryz.prog 59 #[.agg p.cells.toArray, .iface 118 (.agg x.cells.toArray)] w fun e w' => e = .returned (.bool (holdsX (n + 1) p x)) ∧ Below w.heap.size w w' := by
  have hS := HoldW.start p x w
  have hv : Hid (holdsX (n + 1) p x = anyI (fun j => match p.args[j]? with | some q => holdsX n q x | none => false) p.args.length) := Lib.hid (by rw [holdsX, if_neg (by omega), if_neg (by omega), if_pos ho] <;> exact congrArg (fun f => anyI f p.args.length) (funext fun j => by cases p.args[j]? <;> rfl))
  have hc := Lib.hid (fun W (h : HoldW p x w W) => containsP_any p.A p.args p.c p.args.length rfl (some ⟨w.heap.size + 1, 0, none⟩) (fun j => match p.args[j]? with | some q => holdsX n q x | none => false) W (hp.1.1.below h.g) hp.1.2.1 (fun j hj W' hW => by
    rw [List.getElem?_eq_getElem hj]
    have h2 := h.below hW
    exact hold1_any ih _ x _ W' ((hp.2 _ (List.getElem_mem hj)).below h2.g) (hx.keeps W' h2.g) hs h2.i))
  generalize anyI (fun j => match p.args[j]? with | some q => holdsX n q x | none => false) p.args.length = r at *
  have q0 : (p.t.op == 0) = false := by rw [ho]; rfl
  have q1 : (p.t.op == 1) = false := by rw [ho]; rfl
  have q2 : (p.t.op == 2) = true := by rw [ho]; rfl
  have q3 : (p.t.op == 3) = false := by rw [ho]; rfl
  have q4 : (p.t.op == 4) = false := by rw [ho]; rfl
  clear ho
  unfold holdW at hS
  generalize hcx : Value.agg x.cells.toArray = vx at *
  unfold PredD.cells at hS ⊢
  have HS := Lib.hid hS
  clear hS hp hx
  go_enter Tryz.func59, Tryz.ntmps59
  go_wp2_with (first
    | (go_at_call 75; (with_reducible refine (hc.out _ HS.out).mono ?_); rintro e w' ⟨rfl, hg⟩; have hg := Lib.hid hg))
  go_ret
  exact ⟨by rw [hv.out]; rfl, (HS.out.below hg.out).g⟩
end Go.Proofs.YtnddlpfmagdbfaaGreatDoor
/- Contract: does a span satisfy a predicate? The rest. -/
namespace Go.Proofs.YtnddlpfmagdbfaaGreatDoor
open Go Go.Proofs Go.RowKit
set_option linter.unusedVariables false
set_option linter.unusedSimpArgs false
set_option maxHeartbeats 4000000 in
set_option maxRecDepth 20000 in
theorem holds_has {n : Nat} (p : PredD) (x : SpanD) (w : World) (hp : PredOK (n + 1) w p) (hx : x.Held w) (hs : x.Str) (ho : p.t.op = 4) :
    Calls Tryz.prog 59 #[.agg p.cells.toArray, .iface 118 (.agg x.cells.toArray)] w fun e w' => e = .returned (.bool (holdsX (n + 1) p x)) ∧ Below w.heap.size w w' := by
  have hS := HoldW.start p x w
  have hv : Hid (holdsX (n + 1) p x = (valX x ⟨#[97, 116, 116, 114]⟩ p.t.key).2) := Lib.hid (by rw [holdsX, if_neg (by omega), if_neg (by omega), if_neg (by omega), if_neg (by omega), if_pos ho])
  have hc := Lib.hid (fun W (h : HoldW p x w W) => val_any x ⟨#[97, 116, 116, 114]⟩ p.t.key W (hx.keeps W h.g) hs.na)
  generalize valX x ⟨#[97, 116, 116, 114]⟩ p.t.key = v at *
  obtain ⟨v, b⟩ := v
  obtain ⟨k, t, m⟩ := v
  have q0 : (p.t.op == 0) = false := by rw [ho]; rfl
  have q1 : (p.t.op == 1) = false := by rw [ho]; rfl
  have q2 : (p.t.op == 2) = false := by rw [ho]; rfl
  have q3 : (p.t.op == 3) = false := by rw [ho]; rfl
  have q4 : (p.t.op == 4) = true := by rw [ho]; rfl
  clear ho
  unfold holdW at hS
  generalize hcx : Value.agg x.cells.toArray = vx at *
  unfold PredD.cells at hS ⊢
  have HS := Lib.hid hS
  clear hS hp hx hs
  go_enter Tryz.func59, Tryz.ntmps59
  go_wp2_with (first
    | (go_at_call 133; (with_reducible refine (hc.out _ HS.out).mono ?_); unfold valV; rintro e w' ⟨rfl, hg⟩; have hg := Lib.hid (HS.out.below hg).g; clear HS))
  go_ret
  have h2 := hg.out
  have h3 := h2.size
  exact ⟨by rw [hv.out]; rfl, by go_grown⟩
set_option maxHeartbeats 4000000 in
set_option maxRecDepth 20000 in
theorem holds_test {n : Nat} (p : PredD) (x : SpanD) (w : World) (hp : PredOK (n + 1) w p) (hx : x.Held w) (hs : x.Str) (h0 : p.t.op ≠ 0) (h1 : p.t.op ≠ 1) (h2 : p.t.op ≠ 2) (h3 : p.t.op ≠ 3) (h4 : p.t.op ≠ 4) :
    Calls Tryz.prog 59 #[.agg p.cells.toArray, .iface 118 (.agg x.cells.toArray)] w fun e w' => e = .returned (.bool (holdsX (n + 1) p x)) ∧ Below w.heap.size w w' := by
  have hS := HoldW.start p x w
  have hv : Hid (holdsX (n + 1) p x = ((valX x p.t.field p.t.key).2 && satX p.t (valX x p.t.field p.t.key).1)) := Lib.hid (by rw [holdsX, if_neg h0, if_neg h1, if_neg h2, if_neg h3, if_neg h4])
  have hc := Lib.hid (fun W (h : HoldW p x w W) => val_any x p.t.field p.t.key W (hx.keeps W h.g) hs.na)
  have hz := val_size hs p.t.field p.t.key
  generalize valX x p.t.field p.t.key = v at *
  obtain ⟨v, b⟩ := v
  obtain ⟨k, t, m⟩ := v
  have hsat := Lib.hid (fun W => sat_any p.t p.A p.args.length p.c k t m W hz hp.1.2.2.1)
  clear hz
  generalize hss : satX p.t (k, t, m) = sv at *
  have q0 : (p.t.op == 0) = false := by rw [beq_eq_false_iff_ne]; exact h0
  have q1 : (p.t.op == 1) = false := by rw [beq_eq_false_iff_ne]; exact h1
  have q2 : (p.t.op == 2) = false := by rw [beq_eq_false_iff_ne]; exact h2
  have q3 : (p.t.op == 3) = false := by rw [beq_eq_false_iff_ne]; exact h3
  have q4 : (p.t.op == 4) = false := by rw [beq_eq_false_iff_ne]; exact h4
  clear h0 h1 h2 h3 h4
  unfold holdW at hS
  generalize hcx : Value.agg x.cells.toArray = vx at *
  unfold PredD.cells at hS ⊢
  have HS := Lib.hid hS
  clear hS hp hx hs
  cases b
  · clear hsat
    go_enter Tryz.func59, Tryz.ntmps59
    go_wp2_with (first
      | (go_at_call 133; (with_reducible refine (hc.out _ HS.out).mono ?_); unfold valV; rintro e w' ⟨rfl, hg⟩; have hg := Lib.hid (HS.out.below hg); clear HS))
    go_ret
    have h2 := hg.out.g
    have h3 := h2.size
    exact ⟨by rw [hv.out]; rfl, by go_grown⟩
  · go_enter Tryz.func59, Tryz.ntmps59
    go_wp2_with (first
      | (go_at_call 133; (with_reducible refine (hc.out _ HS.out).mono ?_); unfold valV; rintro e w1 ⟨rfl, hg⟩; have hP := (Grew.alloc w1 (.cells #[.int .i64 k, .string t, .int .i64 m] 31)).blk (blk_keep hg HS.out.p); have p0 : (w1.alloc (.cells #[.int .i64 k, .string t, .int .i64 m] 31)).cell? ⟨w.heap.size, 0, none⟩ = some (.int .i64 p.t.op) := cell_blk hP 0 rfl; have p1 : (w1.alloc (.cells #[.int .i64 k, .string t, .int .i64 m] 31)).cell? ⟨w.heap.size, 1, none⟩ = some (.string p.t.field) := cell_blk hP 1 rfl; have p2 : (w1.alloc (.cells #[.int .i64 k, .string t, .int .i64 m] 31)).cell? ⟨w.heap.size, 2, none⟩ = some (.string p.t.key) := cell_blk hP 2 rfl; have p3 : (w1.alloc (.cells #[.int .i64 k, .string t, .int .i64 m] 31)).cell? ⟨w.heap.size, 3, none⟩ = some (.int .i64 p.t.kind) := cell_blk hP 3 rfl; have p4 : (w1.alloc (.cells #[.int .i64 k, .string t, .int .i64 m] 31)).cell? ⟨w.heap.size, 4, none⟩ = some (.string p.t.text) := cell_blk hP 4 rfl; have p5 : (w1.alloc (.cells #[.int .i64 k, .string t, .int .i64 m] 31)).cell? ⟨w.heap.size, 5, none⟩ = some (.int .i64 p.t.num) := cell_blk hP 5 rfl; have p6 : (w1.alloc (.cells #[.int .i64 k, .string t, .int .i64 m] 31)).cell? ⟨w.heap.size, 6, none⟩ = some (.slice p.A p.args.length p.c) := cell_blk hP 6 rfl; have hP := Lib.hid hP; have hg := Lib.hid (HS.out.below hg); clear HS)
      | (go_at_call 77; (with_reducible refine (hsat.out _).mono ?_); rintro e w2 ⟨rfl, hg2⟩; have hg2 := Lib.hid hg2))
    go_ret
    have h2 := hg.out.g
    have h3 := h2.size
    have h4 := hg2.out
    have h5 := h4.size
    exact ⟨by rw [hv.out]; rfl, (h2.alloc h3 _).trans (h4.mono (by simp; omega))⟩
theorem HoldW.drew {p : PredD} {x : SpanD} {w W : World} (h : HoldW p x w W) : HoldW p x w W.drew := h.below (Grew.drew W).b
/-- A predicate in a row lies there cell by cell. -/
theorem predIs_range {W : World} {b o : Nat} {q : PredD} (h : PredIs W ⟨b, o, none⟩ q) : W.rangeAt b o q.cells := by
  intro j v hv
  obtain ⟨g0, g1, g2, g3, g4, g5, g6⟩ := h
  unfold PredD.cells at hv
  match j, hv with
  | 0, hv => cases hv; exact g0
  | 1, hv => cases hv; exact g1
  | 2, hv => cases hv; exact g2
  | 3, hv => cases hv; exact g3
  | 4, hv => cases hv; exact g4
  | 5, hv => cases hv; exact g5
  | 6, hv => cases hv; exact g6
theorem rowP : ∃ d, Tryz.prog.underlying 34 = some d ∧ d.isRow = true := ⟨_, Tryz.underlying34, rfl⟩
set_option maxHeartbeats 4000000 in
set_option maxRecDepth 20000 in
theorem holds_not {n : Nat} (ih : HoldsC n) (p : PredD) (x : SpanD) (w : World) (hp : PredOK (n + 1) w p) (hx : x.Held w) (hs : x.Str) (ho : p.t.op = 3) :
    Calls Tryz.prog 59 #[.agg p.cells.toArray, .iface 118 (.agg x.cells.toArray)] w fun e w' => e = .returned (.bool (holdsX (n + 1) p x)) ∧ Below w.heap.size w w' := by
  have hS := HoldW.start p x w
  have hl : 0 < p.args.length := hp.1.2.2.2 ho
  have hv : Hid (holdsX (n + 1) p x = !(holdsX n p.args[0] x)) := Lib.hid (by rw [holdsX, if_neg (by omega), if_neg (by omega), if_neg (by omega), if_pos ho, List.getElem?_eq_getElem hl])
  obtain ⟨ad, hA, hq⟩ := hp.1.1 0 hl
  have hc := Lib.hid (fun W (h : HoldW p x w W) => hold1_any ih p.args[0] x (w.heap.size + 1) W ((hp.2 _ (List.getElem_mem hl)).below h.g) (hx.keeps W h.g) hs h.i)
  have hQ := Lib.hid (fun W (h : HoldW p x w W) => hq.below h.g)
  clear hq
  have hF := Lib.hid (fun W (h : HoldW p x w W) => h.f)
  have hP : Hid (∀ W, HoldW p x w W → W.cell? ⟨w.heap.size, 6, none⟩ = some (.slice (some ad) p.args.length p.c)) := Lib.hid (fun W h => (cell_blk h.p 6 rfl).trans (by rw [← hA]; rfl))
  generalize p.args[0] = q at *
  generalize holdsX n q x = r at *
  have q0 : (p.t.op == 0) = false := by rw [ho]; rfl
  have q1 : (p.t.op == 1) = false := by rw [ho]; rfl
  have q2 : (p.t.op == 2) = false := by rw [ho]; rfl
  have q3 : (p.t.op == 3) = true := by rw [ho]; rfl
  have q4 : (p.t.op == 4) = false := by rw [ho]; rfl
  obtain ⟨b, o, g⟩ := ad
  have hg : g = none := by
    have h := (hQ.out _ hS).c0
    cases g with
    | none => rfl
    | some g =>
      simp [World.cell?, Addr.add] at h
      split at h <;> cases h
  subst hg
  clear ho
  simp only [Addr.add, Nat.zero_mul, Nat.add_zero] at hQ
  have hR := Lib.hid (fun W h => predIs_range (hQ.out W h))
  obtain ⟨d, hd, hd'⟩ := rowP
  unfold holdW at hS
  generalize hcx : Value.agg x.cells.toArray = vx at *
  have hcells : p.cells.toArray = #[.int .i64 p.t.op, .string p.t.field, .string p.t.key, .int .i64 p.t.kind, .string p.t.text, .int .i64 p.t.num, .slice (some ⟨b, o, none⟩) p.args.length p.c] := by rw [← hA]; rfl
  have HS := Lib.hid hS
  rw [hcells] at HS ⊢
  clear hS hp hx hs
  go_enter Tryz.func59, Tryz.ntmps59
  go_wp2_with fail
  refine wp_region_quiet (C := HoldW p x w) (by kernel_rfl) (by kernel_rfl) HS.out.drew ?_
  iterate 4
    refine wpQuiet_step (fun K hK => ?_)
    go_simp
    first
      | (refine ⟨_, fun _ _ => rfl, hK _ ?_⟩; clear hK K)
      | (refine ⟨_, fun W' hW' => (by (first | rw [hF.out W' hW'] | rw [hP.out W' hW']); exact ⟨rfl, rfl⟩), hK _ ?_⟩; clear hK K)
  refine wpQuiet_step (fun K hK => ?_)
  refine quiet_load (by rfl) 34 (.tmp 33) rfl b _ rfl q.cells d (fun W hW' => hR.out W hW') hd hd' (by kernel_rfl) (hK _ ?_)
  clear hK K
  iterate 3
    refine wpQuiet_step (fun K hK => ?_)
    go_simp
    first
      | (refine ⟨_, fun _ _ => rfl, hK _ ?_⟩; clear hK K)
      | (refine ⟨_, fun W' hW' => (hc.out W' hW').mono (fun e w' h => ⟨h.1, hW'.below h.2⟩), hK _ ?_⟩; clear hK K)
  refine wpQuiet_nil ?_
  intro W hW
  have HW := Lib.hid hW.g
  clear hW HS hF hP hQ hR hc
  go_wp2_with fail
  go_ret
  exact ⟨by rw [hv.out]; rfl, HW.out⟩
theorem holds_any : ∀ n : Nat, HoldsC n
  | 0 => fun p x w hp _ _ => False.elim hp
  | n + 1 => fun p x w hp hx hs => by
    have ih := holds_any n
    by_cases h0 : p.t.op = 0
    · exact holds_true ih p x w hp hx hs h0
    by_cases h1 : p.t.op = 1
    · exact holds_and ih p x w hp hx hs h1
    by_cases h2 : p.t.op = 2
    · exact holds_or ih p x w hp hx hs h2
    by_cases h3 : p.t.op = 3
    · exact holds_not ih p x w hp hx hs h3
    by_cases h4 : p.t.op = 4
    · exact holds_has p x w hp hx hs h4
    exact holds_test p x w hp hx hs h0 h1 h2 h3 h4
/-- span.Holds. -/
theorem spanHolds_any (n : Nat) (p : PredD) (x : SpanD) (w : World) (hp : PredOK n w p) (hx : x.Held w) (hs : x.Str) :
    Calls Tryz.prog 32 #[.agg p.cells.toArray, .agg x.cells.toArray] w fun e w' => e = .returned (.bool (holdsX n p x)) ∧ Below w.heap.size w w' := by
  have hB := Lib.hid (((Below.refl _ w).alloc (Nat.le_refl _) (.cells p.cells.toArray 34)).alloc (by simp) (.cells x.cells.toArray 73))
  have hc := Lib.hid (fun W h => holds_any n p x W (hp.below h) (hx.keeps W h) hs)
  unfold PredD.cells SpanD.cells at hc hB ⊢
  clear hp hx hs
  go_enter Tryz.func32, Tryz.ntmps32
  go_wp2_with (first
    | (go_at_call 59; (with_reducible refine (hc.out _ hB.out).mono ?_); rintro e w' ⟨rfl, hg⟩; have hg := Lib.hid hg))
  go_ret
  exact ⟨rfl, hB.out.trans (hg.out.mono hB.out.size)⟩
end Go.Proofs.YtnddlpfmagdbfaaGreatDoor
/- Contracts: the exponent that a policy gives to a trace. -/
namespace Go.Proofs.YtnddlpfmagdbfaaGreatDoor
open Go Go.Proofs Go.RowKit
set_option linter.unusedVariables false
set_option linter.unusedSimpArgs false
/-- A rule. -/
structure RuleD where
  p : PredD
  e : Int
def RuleD.cells (q : RuleD) : List Value := [.int .i64 q.p.t.op, .string q.p.t.field, .string q.p.t.key, .int .i64 q.p.t.kind, .string q.p.t.text, .int .i64 q.p.t.num, .slice q.p.A q.p.args.length q.p.c, .int .i64 q.e]
def RulesAt (W : World) (a : Option Addr) (L : List RuleD) : Prop := ∀ j (h : j < L.length), ∃ ad, a = some ad ∧ PredIs W (ad.add (j * 8)) L[j].p ∧ W.cell? ⟨(ad.add (j * 8)).block, (ad.add (j * 8)).off + 7, none⟩ = some (.int .i64 L[j].e)
theorem RulesAt.below {W W' : World} {a : Option Addr} {L : List RuleD} (h : RulesAt W a L) (k : Below W.heap.size W W') : RulesAt W' a L := fun j hj =>
  let ⟨ad, h1, h2, h3⟩ := h j hj
  ⟨ad, h1, h2.below k, (k.cell (World.block_lt_of_cell? W _ h3)).trans h3⟩
theorem holdsX_bare (x : SpanD) : ∀ (n : Nat) (p : PredD), holdsX n p x.bare = holdsX n p x
  | 0, _ => rfl
  | n + 1, p => by
    unfold holdsX
    have h : ∀ q, holdsX n q x.bare = holdsX n q x := holdsX_bare x n
    simp only [h]
    rfl
set_option maxHeartbeats 2000000 in
theorem gv11_any (n : Nat) (q : RuleD) (x : SpanD) (b : Nat) (w : World) (hq : PredOK n w q.p) (hx : x.Held w) (hs : x.Str) (hb : w.heap[b]? = some (.cells q.cells.toArray 36 (0, 0))) :
    Calls Tryz.prog 47 #[.agg x.cells.toArray, .pointer (some ⟨b, 0, none⟩)] w fun e w' => e = .returned (.bool (holdsX n q.p x)) ∧ Below w.heap.size w w' := by
  have hB := Lib.hid ((Below.refl _ w).alloc (Nat.le_refl _) (.cells x.cells.toArray 73))
  have hc := Lib.hid (fun W h => spanHolds_any n q.p x W (hq.below h) (hx.keeps W h) hs)
  have hb' : (w.alloc (.cells x.cells.toArray 73)).heap[b]? = _ := (Grew.alloc _ _).blk hb
  have c0 : (w.alloc (.cells x.cells.toArray 73)).cell? ⟨b, 0, none⟩ = some (.int .i64 q.p.t.op) := cell_blk hb' 0 rfl
  have c1 : (w.alloc (.cells x.cells.toArray 73)).cell? ⟨b, 1, none⟩ = some (.string q.p.t.field) := cell_blk hb' 1 rfl
  have c2 : (w.alloc (.cells x.cells.toArray 73)).cell? ⟨b, 2, none⟩ = some (.string q.p.t.key) := cell_blk hb' 2 rfl
  have c3 : (w.alloc (.cells x.cells.toArray 73)).cell? ⟨b, 3, none⟩ = some (.int .i64 q.p.t.kind) := cell_blk hb' 3 rfl
  have c4 : (w.alloc (.cells x.cells.toArray 73)).cell? ⟨b, 4, none⟩ = some (.string q.p.t.text) := cell_blk hb' 4 rfl
  have c5 : (w.alloc (.cells x.cells.toArray 73)).cell? ⟨b, 5, none⟩ = some (.int .i64 q.p.t.num) := cell_blk hb' 5 rfl
  have c6 : (w.alloc (.cells x.cells.toArray 73)).cell? ⟨b, 6, none⟩ = some (.slice q.p.A q.p.args.length q.p.c) := cell_blk hb' 6 rfl
  clear hb hb' hq hx hs
  unfold PredD.cells at hc
  unfold SpanD.cells at hc hB c0 c1 c2 c3 c4 c5 c6 ⊢
  go_enter Tryz.func47, Tryz.ntmps47
  go_wp2_with (first
    | (go_at_call 32; (with_reducible refine (hc.out _ hB.out).mono ?_); rintro e w' ⟨rfl, hg⟩; have hg := Lib.hid hg))
  go_ret
  exact ⟨rfl, hB.out.trans (hg.out.mono hB.out.size)⟩
set_option maxHeartbeats 4000000 in
theorem indexX_any (a : Option Addr) (L : List SpanD) (c n : Nat) (hn : n = L.length) (P : Option Addr) (r : Nat → Bool) (w : World) (h : SpansIn w a L) (hl : L.length ≤ 1000000)
    (hk : ∀ j (h : j < L.length) W, Below w.heap.size w W → Calls Tryz.prog 47 #[.agg L[j].cells.toArray, .pointer P] W fun e w' => e = .returned (.bool (r j)) ∧ Below W.heap.size W w') :
    Calls Tryz.prog 69 #[.slice a n c, .func (.func 47) #[] #[.pointer P]] w fun e w' => (∃ i : Int, e = .returned (.int .i64 i) ∧ decide (0 ≤ i) = anyI r L.length) ∧ Below w.heap.size w w' := by
  subst hn
  have HR := Lib.hid h
  have HK := Lib.hid hk
  clear h hk
  go_enter Tryz.func69, Tryz.ntmps69
  go_wp2_with fail
  go_loopw [5, 8] (fun t i wr => ∃ j : Nat, j ≤ L.length ∧ i = .int .i64 j ∧ Hid (∀ m, m < j → r m = false) ∧ Hid (Below w.heap.size w wr)) (fun _ i _ => L.length - (intOf i).toNat)
  case atStart => exact ⟨0, by omega, rfl, Lib.hid (fun m hm => by omega), Lib.hid (Below.refl _ _)⟩
  case round =>
    obtain ⟨j, hj, rfl, hG, hW⟩ := hrel
    by_cases hlt : j < L.length
    · have hlt2 : decide (j < L.length) = true := decide_eq_true hlt
      obtain ⟨b, o, rfl, hr⟩ := (HR.out.below hW.out) j hlt
      have hc := Lib.hid (HK.out j hlt wr hW.out)
      generalize L[j] = x at *
      have f0 : wr.cell? ⟨b, o + j * 14, none⟩ = some (.int .i64 x.trace) := hr 0 _ rfl
      have f1 : wr.cell? ⟨b, o + j * 14 + 1, none⟩ = some (.int .i64 x.id) := hr 1 _ rfl
      have f2 : wr.cell? ⟨b, o + j * 14 + 2, none⟩ = some (.int .i64 x.parent) := hr 2 _ rfl
      have f3 : wr.cell? ⟨b, o + j * 14 + 3, none⟩ = some (.int .i64 x.rev) := hr 3 _ rfl
      have f4 : wr.cell? ⟨b, o + j * 14 + 4, none⟩ = some (.int .i64 x.clock) := hr 4 _ rfl
      have f5 : wr.cell? ⟨b, o + j * 14 + 5, none⟩ = some (.int .i64 x.kind) := hr 5 _ rfl
      have f6 : wr.cell? ⟨b, o + j * 14 + 6, none⟩ = some (.string x.svc) := hr 6 _ rfl
      have f7 : wr.cell? ⟨b, o + j * 14 + 7, none⟩ = some (.string x.ver) := hr 7 _ rfl
      have f8 : wr.cell? ⟨b, o + j * 14 + 8, none⟩ = some (.string x.op) := hr 8 _ rfl
      have f9 : wr.cell? ⟨b, o + j * 14 + 9, none⟩ = some (.int .i64 x.st) := hr 9 _ rfl
      have f10 : wr.cell? ⟨b, o + j * 14 + 10, none⟩ = some (.int .i64 x.en) := hr 10 _ rfl
      have f11 : wr.cell? ⟨b, o + j * 14 + 11, none⟩ = some (.bool x.err) := hr 11 _ rfl
      have f12 : wr.cell? ⟨b, o + j * 14 + 12, none⟩ = some (.slice x.aA x.attrs.length x.aC) := hr 12 _ rfl
      have f13 : wr.cell? ⟨b, o + j * 14 + 13, none⟩ = some (.slice x.lA x.links.length x.lC) := hr 13 _ rfl
      clear hr
      unfold SpanD.cells at hc
      cases hr : r j
      · have hn : Hid (∀ m, m < j + 1 → r m = false) := Lib.hid (fun m hm => by
          by_cases hmj : m = j
          · subst hmj; exact hr
          · exact hG.out m (by omega))
        rw [hr] at hc
        clear hr
        go_wp2_with (first
          | (go_at_call 47; (with_reducible refine hc.out.mono ?_); rintro e w' ⟨rfl, hb⟩; have hb := Lib.hid hb))
        exact ⟨⟨j + 1, by omega, by go_num, hn, Lib.hid (hW.out.trans (hb.out.mono hW.out.size))⟩, by simp [intOf]; omega⟩
      · have hn := Lib.hid (anyI_true hlt hr)
        rw [hr] at hc
        clear hr
        go_wp2_with (first
          | (go_at_call 47; (with_reducible refine hc.out.mono ?_); rintro e w' ⟨rfl, hb⟩; have hb := Lib.hid hb))
        go_ret
        exact ⟨⟨_, rfl, by rw [hn.out]; simp⟩, hW.out.trans (hb.out.mono hW.out.size)⟩
    · obtain rfl : j = L.length := by omega
      have hlt2 : decide (L.length < L.length) = false := decide_eq_false hlt
      have hn := Lib.hid (anyI_false hG.out)
      go_wp2_with fail
      go_ret
      exact ⟨⟨_, rfl, by rw [hn.out]; simp⟩, hW.out⟩
theorem containsX_any (a : Option Addr) (L : List SpanD) (c n : Nat) (hn : n = L.length) (P : Option Addr) (r : Nat → Bool) (w : World) (h : SpansIn w a L) (hl : L.length ≤ 1000000)
    (hk : ∀ j (h : j < L.length) W, Below w.heap.size w W → Calls Tryz.prog 47 #[.agg L[j].cells.toArray, .pointer P] W fun e w' => e = .returned (.bool (r j)) ∧ Below W.heap.size W w') :
    Calls Tryz.prog 46 #[.slice a n c, .func (.func 47) #[] #[.pointer P]] w fun e w' => e = .returned (.bool (anyI r L.length)) ∧ Below w.heap.size w w' := by
  have hi := Lib.hid (indexX_any a L c n hn P r w h hl hk)
  clear hn h hk
  go_enter Tryz.func46, Tryz.ntmps46
  go_wp2_with (first
    | (go_at_call 69; (with_reducible refine hi.out.mono ?_); rintro e w' ⟨⟨i, rfl, hr⟩, hb⟩; have hr := Lib.hid hr; have hb := Lib.hid hb))
  go_ret
  exact ⟨by rw [← hr.out]; rfl, hb.out⟩
def atB {α : Type} (f : α → Bool) (M : List α) (j : Nat) : Bool := match M[j]? with | some y => f y | none => false
theorem atB_eq {α : Type} {f : α → Bool} {M : List α} {j : Nat} (h : j < M.length) : atB f M j = f M[j] := by unfold atB; rw [List.getElem?_eq_getElem h]
theorem anyI_list {α : Type} (f : α → Bool) (M : List α) : anyI (atB f M) M.length = M.any f := by
  unfold anyI
  rw [Bool.eq_iff_iff, List.any_eq_true, List.any_eq_true]
  constructor
  · rintro ⟨j, hj, h⟩
    have hj := List.mem_range.1 hj
    rw [atB_eq hj] at h
    exact ⟨_, List.getElem_mem hj, h⟩
  · rintro ⟨y, hy, h⟩
    obtain ⟨j, hj, rfl⟩ := List.mem_iff_getElem.1 hy
    exact ⟨j, List.mem_range.2 hj, by rw [atB_eq hj]; exact h⟩
set_option maxHeartbeats 4000000 in
/-- Does a rule apply to the winners? -/
theorem gv1_any (n : Nat) (q : RuleD) (A : Option Addr) (c : Nat) (M : List SpanD) (b : Nat) (w : World) (hq : PredOK n w q.p) (hI : SpansIn w A M) (hH : ∀ x ∈ M, x.Held w) (hs : ∀ x ∈ M, x.Str) (hl : M.length ≤ 1000000) (hb : w.cell? ⟨b, 0, none⟩ = some (.slice A M.length c)) :
    Calls Tryz.prog 45 #[.agg q.cells.toArray, .pointer (some ⟨b, 0, none⟩)] w fun e w' => e = .returned (.bool (M.any (holdsX n q.p))) ∧ Below w.heap.size w w' := by
  have hb' := (Grew.alloc w (.cells q.cells.toArray 36)).cell hb
  have hB := Lib.hid ((Below.refl _ w).alloc (Nat.le_refl _) (.cells q.cells.toArray 36))
  have hR := Lib.hid (blk_new w q.cells.toArray 36)
  have hc := Lib.hid (containsX_any A M c M.length rfl (some ⟨w.heap.size, 0, none⟩) (atB (holdsX n q.p) M) (w.alloc (.cells q.cells.toArray 36)) (hI.below hB.out) hl (fun j hj W hW => by
    rw [atB_eq hj]
    have hm := List.getElem_mem hj
    exact gv11_any n q M[j] w.heap.size W ((hq.below hB.out).below hW) ((((hH _ hm).keeps) _ hB.out).keeps W hW) (hs _ hm) (blk_keep hW hR.out)))
  rw [anyI_list] at hc
  clear hb hq hI hH hs hl hR
  unfold RuleD.cells at hc hB hb' ⊢
  go_enter Tryz.func45, Tryz.ntmps45
  go_wp2_with (first
    | (go_at_call 46; (with_reducible refine hc.out.mono ?_); rintro e w' ⟨rfl, hg⟩; have hg := Lib.hid hg))
  go_ret
  exact ⟨rfl, hB.out.trans (hg.out.mono hB.out.size)⟩
end Go.Proofs.YtnddlpfmagdbfaaGreatDoor
/- Contracts: the exponent that a policy gives to a trace. -/
namespace Go.Proofs.YtnddlpfmagdbfaaGreatDoor
open Go Go.Proofs Go.RowKit
set_option linter.unusedVariables false
set_option linter.unusedSimpArgs false
/-- The first index that is true, or -1. -/
def FirstI (r : Nat → Bool) (n : Nat) (i : Int) : Prop := (∃ j : Nat, j < n ∧ i = j ∧ r j = true ∧ ∀ m, m < j → r m = false) ∨ (i = -1 ∧ ∀ m, m < n → r m = false)
set_option maxHeartbeats 4000000 in
theorem indexR_any (a : Option Addr) (L : List RuleD) (c n : Nat) (hn : n = L.length) (P : Option Addr) (r : Nat → Bool) (w : World) (h : RulesAt w a L) (hl : L.length ≤ 1000000)
    (hk : ∀ j (h : j < L.length) W, Below w.heap.size w W → Calls Tryz.prog 45 #[.agg L[j].cells.toArray, .pointer P] W fun e w' => e = .returned (.bool (r j)) ∧ Below W.heap.size W w') :
    Calls Tryz.prog 48 #[.slice a n c, .func (.func 45) #[] #[.pointer P]] w fun e w' => (∃ i : Int, e = .returned (.int .i64 i) ∧ FirstI r L.length i) ∧ Below w.heap.size w w' := by
  subst hn
  have HR := Lib.hid h
  have HK := Lib.hid hk
  clear h hk
  go_enter Tryz.func48, Tryz.ntmps48
  go_wp2_with fail
  go_loopw [5, 8] (fun t i wr => ∃ j : Nat, j ≤ L.length ∧ i = .int .i64 j ∧ Hid (∀ m, m < j → r m = false) ∧ Hid (Below w.heap.size w wr)) (fun _ i _ => L.length - (intOf i).toNat)
  case atStart => exact ⟨0, by omega, rfl, Lib.hid (fun m hm => by omega), Lib.hid (Below.refl _ _)⟩
  case round =>
    obtain ⟨j, hj, rfl, hG, hW⟩ := hrel
    by_cases hlt : j < L.length
    · have hlt2 : decide (j < L.length) = true := decide_eq_true hlt
      obtain ⟨ad, rfl, ⟨g0, g1, g2, g3, g4, g5, g6⟩, g7⟩ := (HR.out.below hW.out) j hlt
      have hc := Lib.hid (HK.out j hlt wr hW.out)
      generalize L[j] = x at *
      unfold RuleD.cells at hc
      cases hr : r j
      · have hn : Hid (∀ m, m < j + 1 → r m = false) := Lib.hid (fun m hm => by
          by_cases hmj : m = j
          · subst hmj; exact hr
          · exact hG.out m (by omega))
        rw [hr] at hc
        clear hr
        go_wp2_with (first
          | (go_at_call 45; (with_reducible refine hc.out.mono ?_); rintro e w' ⟨rfl, hb⟩; have hb := Lib.hid hb))
        exact ⟨⟨j + 1, by omega, by go_num, hn, Lib.hid (hW.out.trans (hb.out.mono hW.out.size))⟩, by simp [intOf]; omega⟩
      · have hn : Hid (FirstI r L.length j) := Lib.hid (.inl ⟨j, hlt, rfl, hr, hG.out⟩)
        rw [hr] at hc
        clear hr
        go_wp2_with (first
          | (go_at_call 45; (with_reducible refine hc.out.mono ?_); rintro e w' ⟨rfl, hb⟩; have hb := Lib.hid hb))
        go_ret
        exact ⟨⟨_, rfl, hn.out⟩, hW.out.trans (hb.out.mono hW.out.size)⟩
    · obtain rfl : j = L.length := by omega
      have hlt2 : decide (L.length < L.length) = false := decide_eq_false hlt
      have hn : Hid (FirstI r L.length (-1)) := Lib.hid (.inr ⟨rfl, hG.out⟩)
      go_wp2_with fail
      go_ret
      exact ⟨⟨_, rfl, hn.out⟩, hW.out⟩
/-- The exponent of the first rule that applies. -/
def firstX (f : PredD → Bool) (d : Int) : List RuleD → Int
  | [] => d
  | q :: l => if f q.p = true then q.e else firstX f d l
theorem firstX_at (f : PredD → Bool) (d : Int) : ∀ (L : List RuleD) (j : Nat) (hj : j < L.length), f L[j].p = true → (∀ m (hm : m < j), f (L[m]'(by omega)).p = false) → firstX f d L = L[j].e
  | q :: l, 0, _, h, _ => by unfold firstX; exact if_pos h
  | q :: l, j + 1, hj, h, k => by
    unfold firstX
    have h0 : f q.p = false := k 0 (by omega)
    rw [if_neg (by rw [h0]; simp)]
    exact firstX_at f d l j (by simpa using hj) h (fun m hm => k (m + 1) (by omega))
theorem firstX_none (f : PredD → Bool) (d : Int) : ∀ (L : List RuleD), (∀ m (hm : m < L.length), f L[m].p = false) → firstX f d L = d
  | [], _ => rfl
  | q :: l, k => by
    unfold firstX
    have h0 : f q.p = false := k 0 (by simp)
    rw [if_neg (by rw [h0]; simp)]
    exact firstX_none f d l (fun m hm => k (m + 1) (by simpa using hm))
/-- A policy. -/
structure PolD where
  A : Option Addr
  c : Nat
  rules : List RuleD
  d : Int
def PolD.cells (p : PolD) : List Value := [.slice p.A p.rules.length p.c, .int .i64 p.d]
structure PolD.Held (n : Nat) (w : World) (p : PolD) : Prop where
  at_ : RulesAt w p.A p.rules
  len : p.rules.length ≤ 1000000
  ok : ∀ q ∈ p.rules, PredOK n w q.p
theorem PolD.Held.below {n : Nat} {w W : World} {p : PolD} (h : p.Held n w) (k : Below w.heap.size w W) : p.Held n W := ⟨h.at_.below k, h.len, fun q hq => (h.ok q hq).below k⟩
structure PolD.Lies (n : Nat) (w : World) (p : PolD) : Prop where
  at_ : RulesAt w p.A p.rules
  len : p.rules.length ≤ 1000000
  ok : ∀ q ∈ p.rules, PredLie n w q.p
theorem PolD.Lies.below {n : Nat} {w W : World} {p : PolD} (h : p.Lies n w) (k : Below w.heap.size w W) : p.Lies n W := ⟨h.at_.below k, h.len, fun q hq => (h.ok q hq).below k⟩
theorem PolD.Held.lies {n : Nat} {w : World} {p : PolD} (h : p.Held n w) : p.Lies n w := ⟨h.at_, h.len, fun q hq => (h.ok q hq).lie⟩
/-- A trace. -/
structure TraceD where
  id : Int
  weight : Int
  A : Option Addr
  c : Nat
  spans : List SpanD
def TraceD.cells (t : TraceD) : List Value := [.int .i64 t.id, .int .i64 t.weight, .slice t.A t.spans.length t.c]
/-- The spans of a trace lie there, and are well made. -/
structure TraceD.Held (w : World) (t : TraceD) : Prop where
  len : t.spans.length ≤ 100000
  at_ : SpansIn w t.A t.spans
  held : ∀ x ∈ t.spans, x.Held w
  sound : ∀ x ∈ t.spans, x.Sound ∧ x.attrs.length ≤ 1000 ∧ x.links.length ≤ 1000
  str : ∀ x ∈ t.spans, x.Str
theorem TraceD.Held.below {w W : World} {t : TraceD} (h : t.Held w) (k : Below w.heap.size w W) : t.Held W := ⟨h.len, h.at_.below k, fun x hx => (h.held x hx).keeps W k, h.sound, h.str⟩
/-- The spans of a trace lie there. -/
structure TraceD.Lies (w : World) (t : TraceD) : Prop where
  len : t.spans.length ≤ 100000
  at_ : SpansIn w t.A t.spans
  held : ∀ x ∈ t.spans, x.Held w
  sound : ∀ x ∈ t.spans, x.Sound
  txt : ∀ x ∈ t.spans, x.Txt
theorem TraceD.Lies.below {w W : World} {t : TraceD} (h : t.Lies w) (k : Below w.heap.size w W) : t.Lies W := ⟨h.len, h.at_.below k, fun x hx => (h.held x hx).keeps W k, h.sound, h.txt⟩
theorem TraceD.Lies.nil {w : World} {t : TraceD} (h : t.Lies w) (k : t.A = none) : t.spans = [] := by
  rcases Nat.eq_zero_or_pos t.spans.length with h0 | h0
  · exact List.length_eq_zero_iff.1 h0
  · obtain ⟨b, o, e, _⟩ := h.at_ 0 h0
    rw [k] at e
    cases e
theorem TraceD.Lies.toHeld {w : World} {t : TraceD} (h : t.Lies w) (k : ∀ x ∈ t.spans, x.attrs.length ≤ 32 ∧ x.links.length ≤ 16) : t.Held w :=
  ⟨h.len, h.at_, h.held, fun x hx => ⟨h.sound x hx, by have := k x hx; omega, by have := k x hx; omega⟩, fun x hx => (h.txt x hx).str (by have := k x hx; omega)⟩
/-- The exponent that a policy gives to a trace. -/
def givenX (n : Nat) (p : PolD) (t : TraceD) : Int := firstX (fun q => (winX t.spans).any (holdsX n q)) p.d p.rules
theorem winX_sub (L : List SpanD) : ∀ x ∈ winX L, x ∈ L := fun x hx => setX_sub L x (pickI_sub _ _ _ x hx)
theorem str_bare {x y : SpanD} (h : x.bare = y.bare) (k : x.Str) : y.Str := by
  have e : ∀ z : SpanD, z.bare.Str ↔ z.Str := fun z => ⟨fun h => ⟨h.svc, h.ver, h.op, h.attrs, h.na⟩, fun h => ⟨h.svc, h.ver, h.op, h.attrs, h.na⟩⟩
  exact (e y).1 (h ▸ (e x).2 k)
theorem any_bare {M L : List SpanD} (h : M.map SpanD.bare = L.map SpanD.bare) (n : Nat) (q : PredD) : M.any (holdsX n q) = L.any (holdsX n q) := by
  have e : ∀ l : List SpanD, l.any (holdsX n q) = (l.map SpanD.bare).any (holdsX n q) := by
    intro l
    rw [List.any_map]
    congr 1
    funext x
    exact (holdsX_bare x n q).symm
  rw [e M, h, ← e L]
theorem all_str {M L : List SpanD} (h : M.map SpanD.bare = (winX L).map SpanD.bare) (k : ∀ x ∈ L, x.Str) : ∀ x ∈ M, x.Str := by
  intro x hx
  have h1 : x.bare ∈ (winX L).map SpanD.bare := h ▸ List.mem_map_of_mem hx
  obtain ⟨y, hy, e⟩ := List.mem_map.1 h1
  exact str_bare e (k y (winX_sub L y hy))
theorem winX_length (L : List SpanD) : (winX L).length ≤ L.length := Nat.le_trans (pickI_length _ _ _) (setX_length L)
/-- A row of spans is a slice of them. -/
theorem RowX.slice {lo : Nat} {W : World} {v : Value} {M : List SpanD} (h : RowX lo W v M) : ∃ A c, v = .slice A M.length c ∧ SpansIn W A M ∧ (A = none → M = []) ∧ ∀ p, A = some p → p.spot = none := by
  rcases h.row.2 with ⟨h0, h1⟩ | ⟨g, cap, cur, hv, hb, hg, h1, h2, h3, h4⟩
  · have : M = [] := List.length_eq_zero_iff.1 h1
    subst this
    exact ⟨none, 0, h0, fun j hj => absurd hj (Nat.not_lt_zero _), fun _ => rfl, by simp⟩
  · refine ⟨_, cap, hv, fun j hj => ⟨g, 0, rfl, fun i u hu => ?_⟩, by simp, fun p hp => by cases hp; rfl⟩
    have hi : i < 14 := by
      have := (List.getElem?_eq_some_iff.1 hu).1
      rwa [cells_length] at this
    have h5 : (cellsX M)[j * 14 + i]? = some u := (cellsX_get hj hi).trans hu
    rw [← h4, List.getElem?_take_of_lt (by omega)] at h5
    refine cell_blk hg (0 + j * 14 + i) ?_
    rw [Nat.zero_add, ← Array.getElem?_toList]
    exact h5
end Go.Proofs.YtnddlpfmagdbfaaGreatDoor
/- Contracts: the exponent that a policy gives to a trace: given. -/
namespace Go.Proofs.YtnddlpfmagdbfaaGreatDoor
open Go Go.Proofs Go.RowKit
set_option linter.unusedVariables false
set_option linter.unusedSimpArgs false
theorem rules_cell {W : World} {a : Option Addr} {L : List RuleD} (h : RulesAt W a L) {j : Nat} (hj : j < L.length) : ∃ ad, a = some ad ∧ W.cell? ⟨(ad.add (j * 8)).block, (ad.add (j * 8)).off + 7, none⟩ = some (.int .i64 L[j].e) :=
  let ⟨ad, h1, _, h3⟩ := h j hj
  ⟨ad, h1, h3⟩
theorem firstI_uniq {r : Nat → Bool} {n : Nat} {i k : Int} (h : FirstI r n i) (g : FirstI r n k) : i = k := by
  rcases h with ⟨j, hj, rfl, h1, h2⟩ | ⟨rfl, h1⟩
  · rcases g with ⟨m, hm, rfl, g1, g2⟩ | ⟨rfl, g1⟩
    · have a : ¬ j < m := fun c => by rw [g2 j c] at h1; cases h1
      have b : ¬ m < j := fun c => by rw [h2 m c] at g1; cases g1
      omega
    · rw [g1 j hj] at h1; cases h1
  · rcases g with ⟨m, hm, rfl, g1, g2⟩ | ⟨rfl, g1⟩
    · rw [h1 m hm] at g1; cases g1
    · rfl
theorem firstI_ex (r : Nat → Bool) : ∀ n : Nat, ∃ i, FirstI r n i
  | 0 => ⟨-1, .inr ⟨rfl, fun m hm => absurd hm (Nat.not_lt_zero m)⟩⟩
  | n + 1 => by
    obtain ⟨i, h⟩ := firstI_ex r n
    rcases h with ⟨j, hj, rfl, h1, h2⟩ | ⟨rfl, h1⟩
    · exact ⟨_, .inl ⟨j, by omega, rfl, h1, h2⟩⟩
    · cases hn : r n
      · refine ⟨-1, .inr ⟨rfl, fun m hm => ?_⟩⟩
        by_cases h : m = n
        · subst h; exact hn
        · exact h1 m (by omega)
      · exact ⟨_, .inl ⟨n, by omega, rfl, hn, h1⟩⟩
/-- Does a rule apply? -/
def appX (n : Nat) (t : TraceD) (q : RuleD) : Bool := (winX t.spans).any (holdsX n q.p)
theorem index_given (n : Nat) (p : PolD) (t : TraceD) (w w1 W1 : World) (A1 : Option Addr) (c1 b : Nat) (M : List SpanD) (HP : p.Held n w) (hlo : Below w.heap.size w W1) (hR : SpansIn W1 A1 M) (hH : ∀ x ∈ M, x.Held W1) (hM : M.map SpanD.bare = (winX t.spans).map SpanD.bare) (HS : ∀ x ∈ t.spans, x.Str) (HL : t.spans.length ≤ 100000) (hb : W1.cell? ⟨b, 0, none⟩ = some (.slice A1 M.length c1)) :
    Calls Tryz.prog 48 #[.slice p.A p.rules.length p.c, .func (.func 45) #[] #[.pointer (some ⟨b, 0, none⟩)]] W1 fun e w' => (∃ i : Int, e = .returned (.int .i64 i) ∧ FirstI (atB (appX n t) p.rules) p.rules.length i) ∧ Below W1.heap.size W1 w' := by
  have hlen : M.length ≤ 1000000 := by
    have h1 := congrArg List.length hM
    simp only [List.length_map] at h1
    have h2 := winX_length t.spans
    omega
  refine indexR_any p.A p.rules p.c p.rules.length rfl _ _ W1 (HP.below hlo).at_ HP.len fun j hj W hW => ?_
  rw [atB_eq hj]
  have e : appX n t p.rules[j] = M.any (holdsX n p.rules[j].p) := (any_bare hM n _).symm
  rw [e]
  exact gv1_any n p.rules[j] A1 c1 M b W (((HP.below hlo).ok _ (List.getElem_mem hj)).below hW) (hR.below hW) (fun x hx => (hH x hx).keeps W hW) (all_str hM HS) hlen ((hW.cell (World.block_lt_of_cell? W1 _ hb)).trans hb)
set_option maxHeartbeats 8000000 in
set_option maxRecDepth 20000 in
theorem given_any (n : Nat) (p : PolD) (t : TraceD) (w : World) (hp : p.Held n w) (ht : t.Held w) :
    Calls Tryz.prog 27 #[.agg p.cells.toArray, .agg t.cells.toArray] w fun e w' => e = .returned (.int .i64 (givenX n p t)) ∧ Below w.heap.size w w' := by
  have hB := Lib.hid (((Below.refl _ w).alloc (Nat.le_refl _) (.cells p.cells.toArray 24)).alloc (by simp) (.cells t.cells.toArray 27))
  have hs0 : Hid (((w.alloc (.cells p.cells.toArray 24)).alloc (.cells t.cells.toArray 27)).heap.size = w.heap.size + 2) := Lib.hid (by simp)
  have hPB := Lib.hid ((Grew.alloc (w.alloc (.cells p.cells.toArray 24)) (.cells t.cells.toArray 27)).blk (blk_new w p.cells.toArray 24))
  have HT := Lib.hid (ht.below hB.out)
  have hW := Lib.hid (winners_any t.A t.spans t.c HT.out.len _ HT.out.at_ HT.out.held HT.out.sound)
  have HS := Lib.hid ht.str
  have HL := Lib.hid ht.len
  have HP := Lib.hid hp
  clear hp ht HT
  have hval : Hid (∀ i, FirstI (atB (appX n t) p.rules) p.rules.length i → (∃ j : Nat, ∃ hj : j < p.rules.length, i = j ∧ givenX n p t = p.rules[j].e) ∨ (i = -1 ∧ givenX n p t = p.d)) := Lib.hid (fun i hi => by
    rcases hi with ⟨j, hj, rfl, h1, h2⟩ | ⟨rfl, h1⟩
    · refine .inl ⟨j, hj, rfl, ?_⟩
      rw [atB_eq hj] at h1
      exact firstX_at _ _ _ _ hj h1 (fun m hm => by have := h2 m hm; rwa [atB_eq (by omega)] at this)
    · refine .inr ⟨rfl, firstX_none _ _ _ (fun m hm => by have := h1 m hm; rwa [atB_eq hm] at this)⟩)
  obtain ⟨i0, hi0⟩ := firstI_ex (atB (appX n t) p.rules) p.rules.length
  have hu := Lib.hid (fun i (h : FirstI (atB (appX n t) p.rules) p.rules.length i) => firstI_uniq h hi0)
  have hR := Lib.hid (fun W h j hj => rules_cell (W := W) (HP.out.below h).at_ (j := j) hj)
  unfold PolD.cells TraceD.cells at hW hB hPB hs0 ⊢
  go_enter Tryz.func27, Tryz.ntmps27
  rcases hval.out i0 hi0 with ⟨j, hj, rfl, hv⟩ | ⟨rfl, hv⟩
  · have hj0 : decide ((0 : Int) ≤ (j : Int)) = true := decide_eq_true (by omega)
    have hv := Lib.hid hv
    have hR' := Lib.hid (fun W h => hR.out W h j hj)
    clear hval hR
    generalize p.rules[j] = q at *
    go_wp2_with (first
    | (go_at_call 31; (with_reducible refine hW.out.mono ?_); rintro e w1 ⟨v, M, rfl, hR, hM, hg⟩; obtain ⟨A1, c1, rfl, hI, hA, hA'⟩ := hR.slice; have hg1 : Below w.heap.size w (w1.alloc (.cells #[.slice A1 M.length c1] 25)) := (hB.out.trans (hg.mono hB.out.size)).alloc (Nat.le_trans hB.out.size hg.size) _; have hc := Lib.hid (index_given n p t w w1 (w1.alloc (.cells #[.slice A1 M.length c1] 25)) A1 c1 w1.heap.size M HP.out hg1 (hI.grew (Grew.alloc _ _)) (fun x hx => ((hR.own x hx).held).grew (Grew.alloc _ _)) hM HS.out HL.out (cell_new _ _ _ _ _ _ rfl rfl)); have hP1 := (Grew.alloc w1 (.cells #[.slice A1 M.length c1] 25)).blk (blk_keep hg hPB.out); have p0 : (w1.alloc (.cells #[.slice A1 M.length c1] 25)).cell? ⟨w.heap.size, 0, none⟩ = some (.slice p.A p.rules.length p.c) := cell_blk hP1 0 rfl; have hg1 := Lib.hid hg1; have hP1 := Lib.hid hP1; clear hI hA hA' hM hR hg)
    | (go_at_call 48; (with_reducible refine hc.out.mono ?_); rintro e w3 ⟨⟨i, rfl, hi⟩, hg3⟩; have hi := hu.out i hi; subst hi; have hP3 := blk_keep hg3 hP1.out; have q0 : w3.cell? ⟨w.heap.size, 0, none⟩ = some (.slice p.A p.rules.length p.c) := cell_blk hP3 0 rfl; have q1 : w3.cell? ⟨w.heap.size, 1, none⟩ = some (.int .i64 p.d) := cell_blk hP3 1 rfl; have hg4 := Lib.hid (hg1.out.trans (hg3.mono hg1.out.size)); clear hP3; obtain ⟨ad, hA3, hc3⟩ := hR'.out w3 hg4.out))
    go_ret
    exact ⟨by rw [hv.out]; rfl, hg4.out⟩
  · have hj0 : decide ((0 : Int) ≤ -1) = false := by decide
    have hv := Lib.hid hv
    clear hval hR
    go_wp2_with (first
    | (go_at_call 31; (with_reducible refine hW.out.mono ?_); rintro e w1 ⟨v, M, rfl, hR, hM, hg⟩; obtain ⟨A1, c1, rfl, hI, hA, hA'⟩ := hR.slice; have hg1 : Below w.heap.size w (w1.alloc (.cells #[.slice A1 M.length c1] 25)) := (hB.out.trans (hg.mono hB.out.size)).alloc (Nat.le_trans hB.out.size hg.size) _; have hc := Lib.hid (index_given n p t w w1 (w1.alloc (.cells #[.slice A1 M.length c1] 25)) A1 c1 w1.heap.size M HP.out hg1 (hI.grew (Grew.alloc _ _)) (fun x hx => ((hR.own x hx).held).grew (Grew.alloc _ _)) hM HS.out HL.out (cell_new _ _ _ _ _ _ rfl rfl)); have hP1 := (Grew.alloc w1 (.cells #[.slice A1 M.length c1] 25)).blk (blk_keep hg hPB.out); have p0 : (w1.alloc (.cells #[.slice A1 M.length c1] 25)).cell? ⟨w.heap.size, 0, none⟩ = some (.slice p.A p.rules.length p.c) := cell_blk hP1 0 rfl; have hg1 := Lib.hid hg1; have hP1 := Lib.hid hP1; clear hI hA hA' hM hR hg)
    | (go_at_call 48; (with_reducible refine hc.out.mono ?_); rintro e w3 ⟨⟨i, rfl, hi⟩, hg3⟩; have hi := hu.out i hi; subst hi; have hP3 := blk_keep hg3 hP1.out; have q0 : w3.cell? ⟨w.heap.size, 0, none⟩ = some (.slice p.A p.rules.length p.c) := cell_blk hP3 0 rfl; have q1 : w3.cell? ⟨w.heap.size, 1, none⟩ = some (.int .i64 p.d) := cell_blk hP3 1 rfl; have hg4 := Lib.hid (hg1.out.trans (hg3.mono hg1.out.size)); clear hP3))
    go_ret
    exact ⟨by rw [hv.out]; rfl, hg4.out⟩
end Go.Proofs.YtnddlpfmagdbfaaGreatDoor
/- Contract: the exponent that a policy gives to a trace, as the law says it. -/
namespace Go.Proofs.YtnddlpfmagdbfaaGreatDoor
open Go Go.Proofs Go.RowKit
set_option linter.unusedVariables false
set_option linter.unusedSimpArgs false
theorem rules_pred {W : World} {a : Option Addr} {L : List RuleD} (h : RulesAt W a L) {j : Nat} (hj : j < L.length) : ∃ b o, a = some ⟨b, o, none⟩ ∧ W.rangeAt b (o + j * 8) L[j].p.cells ∧ W.cell? ⟨b, o + j * 8 + 7, none⟩ = some (.int .i64 L[j].e) := by
  obtain ⟨⟨b, o, g⟩, h1, h2, h3⟩ := h j hj
  cases g with
  | none =>
    rw [Addr.add_mid] at h2 h3
    exact ⟨b, o, h1, predIs_range h2, h3⟩
  | some g =>
    exfalso
    obtain ⟨ad, k1, k2, _⟩ := h 0 (by omega)
    obtain rfl : (⟨b, o, some g⟩ : Addr) = ad := Option.some.inj (h1.symm.trans k1)
    have h := k2.c0
    unfold World.cell? Addr.add at h
    revert h
    simp
    split <;> simp
set_option maxHeartbeats 8000000 in
set_option maxRecDepth 20000 in
theorem gives_any (n : Nat) (p : PolD) (t : TraceD) (w : World) (hp : p.Held n w) (ht : t.Held w) :
    Calls Tryz.prog 16 #[.agg p.cells.toArray, .agg t.cells.toArray] w fun e w' => e = .returned (.int .i64 (givenX n p t)) ∧ Below w.heap.size w w' := by
  have hB := Lib.hid (((Below.refl _ w).alloc (Nat.le_refl _) (.cells p.cells.toArray 24)).alloc (by simp) (.cells t.cells.toArray 27))
  have hPB := Lib.hid ((Grew.alloc (w.alloc (.cells p.cells.toArray 24)) (.cells t.cells.toArray 27)).blk (blk_new w p.cells.toArray 24))
  have HT := Lib.hid (ht.below hB.out)
  have hW := Lib.hid (winners_any t.A t.spans t.c HT.out.len _ HT.out.at_ HT.out.held HT.out.sound)
  have HS := Lib.hid ht.str
  have HL := Lib.hid ht.len
  have HP := Lib.hid hp
  clear hp ht HT
  unfold PolD.cells TraceD.cells at hW hB hPB ⊢
  obtain ⟨d, hd, hd'⟩ := rowP
  obtain ⟨d2, hd2, hd2'⟩ := rowX
  have hlenR := HP.out.len
  go_enter Tryz.func16, Tryz.ntmps16
  go_wp2_with (first
    | (go_at_call 31; (with_reducible refine hW.out.mono ?_); rintro e w1 ⟨v, M, rfl, hR, hM, hg⟩; obtain ⟨A1, c1, rfl, hI, hA, hA'⟩ := hR.slice; have hlenM : M.length ≤ 1000000 := (by have h1 := congrArg List.length hM; simp only [List.length_map] at h1; have h2 := winX_length t.spans; have := HL.out; omega); have hI1 := Lib.hid hI; have hO1 := Lib.hid (fun x hx => (hR.own x hx).held.keeps); have hS1 := Lib.hid (all_str hM HS.out); have hP1 := Lib.hid (blk_keep hg hPB.out); have hg1 := Lib.hid (hB.out.trans (hg.mono hB.out.size)); have hM1 := Lib.hid hM; clear hI hA hA' hM hR hg))
  go_loopw [6, 7] (fun i k wr => ∃ j : Nat, j ≤ p.rules.length ∧ i = .int .i64 j ∧ Hid (∀ m (hm : m < j) (h : m < p.rules.length), appX n t p.rules[m] = false) ∧ Hid (Below w1.heap.size w1 wr)) (fun i _ _ => p.rules.length - (intOf i).toNat)
  case atStart => exact ⟨0, by omega, rfl, Lib.hid (fun m hm => by omega), Lib.hid (Below.refl _ _)⟩
  case round =>
    obtain ⟨j, hj, rfl, hG, hK⟩ := hrel
    obtain ⟨wo, rfl⟩ : ∃ x, x = wr := ⟨_, rfl⟩
    have hP2 := blk_keep hK.out hP1.out
    have p0 : wo.cell? ⟨w.heap.size, 0, none⟩ = some (.slice p.A p.rules.length p.c) := cell_blk hP2 0 rfl
    have p1 : wo.cell? ⟨w.heap.size, 1, none⟩ = some (.int .i64 p.d) := cell_blk hP2 1 rfl
    have hP2 := Lib.hid hP2
    by_cases hlt : j < p.rules.length
    · have hlt2 : decide (j < p.rules.length) = true := decide_eq_true hlt
      obtain ⟨b, o, hA, hpr, hpe⟩ := rules_pred (HP.out.below (hg1.out.trans (hK.out.mono hg1.out.size))).at_ hlt
      have hQ := Lib.hid (HP.out.ok _ (List.getElem_mem hlt))
      have hstep := Lib.hid (fun (h : appX n t p.rules[j] = false) m (hm : m < j + 1) (h' : m < p.rules.length) => (by
        by_cases e : m = j
        · subst e; exact h
        · exact hG.out m (by omega) h' : appX n t p.rules[m] = false))
      have hfin := Lib.hid (fun (h : appX n t p.rules[j] = true) => (firstX_at _ p.d _ j hlt h (fun m hm => hG.out m hm (by omega)) : givenX n p t = p.rules[j].e))
      have hap : Hid (appX n t p.rules[j] = M.any (holdsX n p.rules[j].p)) := Lib.hid (any_bare hM1.out n _).symm
      generalize p.rules[j] = q at *
      go_wp2_with fail
      go_loopw [7] (fun k wr => ∃ m : Nat, m ≤ M.length ∧ k = .int .i64 m ∧ Hid (∀ i (hi : i < m) (h : i < M.length), holdsX n q.p M[i] = false) ∧ Hid (Below wo.heap.size wo wr)) (fun k _ => M.length - (intOf k).toNat)
      case atStart => exact ⟨0, by omega, rfl, Lib.hid (fun m hm => by omega), Lib.hid (Below.refl _ _)⟩
      case round =>
        obtain ⟨m, hm, rfl, hN, hL⟩ := hrel
        by_cases hlm : m < M.length
        · have hlm2 : decide (m < M.length) = true := decide_eq_true hlm
          have hk1 := Lib.hid (hK.out.trans (hL.out.mono hK.out.size))
          obtain ⟨b2, o2, hA2, hr2⟩ := (hI1.out.below hk1.out) m hlm
          have hF := Lib.hid (fun W (h : Below wr.heap.size wr W) => (cell_blk (blk_keep h (blk_keep hL.out hP2.out)) 0 rfl : W.cell? ⟨w.heap.size, 0, none⟩ = some (.slice p.A p.rules.length p.c)))
          have hqr := Lib.hid (fun W (h : Below wr.heap.size wr W) => rangeAt_below (rangeAt_below hpr (rangeAt_lt hpr (Nat.succ_pos _)) hL.out) (Nat.lt_of_lt_of_le (rangeAt_lt hpr (Nat.succ_pos _)) hL.out.size) h)
          have hxr := Lib.hid (fun W (h : Below wr.heap.size wr W) => rangeAt_below hr2 (rangeAt_lt hr2 (by rw [cells_length]; omega)) h)
          have hbe : b < wo.heap.size := rangeAt_lt hpr (Nat.succ_pos _)
          have hqe := Lib.hid (fun W (h : Below wr.heap.size wr W) => ((h.cell (p := ⟨b, o + j * 8 + 7, none⟩) (Nat.lt_of_lt_of_le hbe hL.out.size)).trans ((hL.out.cell (p := ⟨b, o + j * 8 + 7, none⟩) hbe).trans hpe)))
          have hx := List.getElem_mem hlm
          have hc := Lib.hid (fun W (h : Below wr.heap.size wr W) => spanHolds_any n q.p M[m] W (((hQ.out.below hg1.out).below hk1.out).below h) (((hO1.out _ hx) wr hk1.out).keeps W h) (hS1.out _ hx))
          have hN1 := Lib.hid (fun (h : holdsX n q.p M[m] = false) i (hi : i < m + 1) (h' : i < M.length) => (by
            by_cases e : i = m
            · subst e; exact h
            · exact hN.out i (by omega) h' : holdsX n q.p M[i] = false))
          have hN2 := Lib.hid (fun (h : holdsX n q.p M[m] = true) => (hfin.out (hap.out.trans (List.any_eq_true.2 ⟨_, hx, h⟩))))
          generalize M[m] = x at *
          clear hx
          go_wp2_with fail
          simp only [hA] at hF
          subst hA2
          refine wp_region_quiet (C := Below wr.heap.size wr) (by kernel_rfl) (by kernel_rfl) (below_drew wr) ?_
          iterate 5
            refine wpQuiet_step (fun K hK => ?_)
            go_simp
            first
              | (refine ⟨_, fun _ _ => rfl, hK _ ?_⟩; clear hK K)
              | (refine ⟨_, fun W' hW' => (by rw [hF.out W' hW']; exact ⟨rfl, rfl⟩), hK _ ?_⟩; clear hK K)
              | (refine ⟨_, fun W' hW' => (hc.out W' hW').mono (fun e w' h => ⟨h.1, hW'.trans (h.2.mono hW'.size)⟩), hK _ ?_⟩; clear hK K)
          refine wpQuiet_step (fun K hK => ?_)
          refine quiet_load (by rfl) 34 (.tmp 28) rfl b _ rfl q.p.cells d (fun W hW' => hqr.out W hW') hd hd' (by kernel_rfl) (hK _ ?_)
          clear hK K
          iterate 3
            refine wpQuiet_step (fun K hK => ?_)
            go_simp
            first
              | (refine ⟨_, fun _ _ => rfl, hK _ ?_⟩; clear hK K)
              | (refine ⟨_, fun W' hW' => (by rw [hF.out W' hW']; exact ⟨rfl, rfl⟩), hK _ ?_⟩; clear hK K)
              | (refine ⟨_, fun W' hW' => (hc.out W' hW').mono (fun e w' h => ⟨h.1, hW'.trans (h.2.mono hW'.size)⟩), hK _ ?_⟩; clear hK K)
          refine wpQuiet_step (fun K hK => ?_)
          refine quiet_load (by rfl) 73 (.tmp 32) rfl b2 _ rfl x.cells d2 (fun W hW' => hxr.out W hW') hd2 hd2' (by kernel_rfl) (hK _ ?_)
          clear hK K
          iterate 1
            refine wpQuiet_step (fun K hK => ?_)
            go_simp
            first
              | (refine ⟨_, fun _ _ => rfl, hK _ ?_⟩; clear hK K)
              | (refine ⟨_, fun W' hW' => (by rw [hF.out W' hW']; exact ⟨rfl, rfl⟩), hK _ ?_⟩; clear hK K)
              | (refine ⟨_, fun W' hW' => (hc.out W' hW').mono (fun e w' h => ⟨h.1, hW'.trans (h.2.mono hW'.size)⟩), hK _ ?_⟩; clear hK K)
          refine wpQuiet_nil ?_
          intro W hW
          have c0 := hF.out W hW
          have c7 := hqe.out W hW
          have HW := Lib.hid hW
          clear hW hF hqr hxr hqe hc hP2 hP1
          generalize hx0 : holdsX n q.p x = r at *
          cases r
          · have hz := Lib.hid (hN1.out rfl)
            go_wp2_with fail
            exact ⟨⟨m + 1, by omega, by go_num, hz, Lib.hid (hL.out.trans (HW.out.mono hL.out.size))⟩, by simp [intOf]; omega⟩
          · have hz : Hid (givenX n p t = q.e) := Lib.hid (hN2.out rfl)
            go_wp2_with fail
            go_ret
            exact ⟨by rw [hz.out]; rfl, hg1.out.trans ((hK.out.trans ((hL.out.trans (HW.out.mono hL.out.size)).mono hK.out.size)).mono hg1.out.size)⟩
        · have hlm2 : decide (m < M.length) = false := decide_eq_false hlm
          have hz := hstep.out (hap.out.trans (List.any_eq_false.2 (fun x hx => by
            obtain ⟨i, hi, rfl⟩ := List.mem_iff_getElem.1 hx
            rw [hN.out i (by omega) hi]
            simp)))
          have hz := Lib.hid hz
          go_wp2_with fail
          exact ⟨⟨j + 1, by omega, by go_num, hz, Lib.hid (hK.out.trans (hL.out.mono hK.out.size))⟩, by simp [intOf]; omega⟩
    · have hlt2 : decide (j < p.rules.length) = false := decide_eq_false hlt
      have hv : Hid (givenX n p t = p.d) := Lib.hid (firstX_none _ _ _ (fun m hm => hG.out m (by omega) hm))
      go_wp2_with fail
      go_ret
      exact ⟨by rw [hv.out]; rfl, hg1.out.trans (hK.out.mono hg1.out.size)⟩
end Go.Proofs.YtnddlpfmagdbfaaGreatDoor
/- Contracts: names and values. -/
namespace Go.Proofs.YtnddlpfmagdbfaaGreatDoor
open Go Go.Proofs Go.RowKit
set_option linter.unusedVariables false
set_option linter.unusedSimpArgs false
theorem below_alloc (w : World) (o : Obj) : Below w.heap.size w (w.alloc o) := (Grew.alloc w o).b

/-- Byte number k. -/
def bt (s : ByteArray) (k : Nat) : Int := if h : k < s.size then (s[k].toNat : Int) else 0
theorem bt_eq {s : ByteArray} {k : Nat} (h : k < s.size) : bt s k = (s[k].toNat : Int) := by unfold bt; rw [dif_pos h]
/-- Are all bytes within bounds? -/
def withinB (s : ByteArray) (lo hi : Int) : Bool := (List.range s.size).all fun k => decide (lo ≤ bt s k ∧ bt s k ≤ hi)
theorem withinB_true {s : ByteArray} {lo hi : Int} (h : ∀ j, j < s.size → lo ≤ bt s j ∧ bt s j ≤ hi) : withinB s lo hi = true := by
  unfold withinB
  rw [List.all_eq_true]
  intro k hk
  simpa using h k (List.mem_range.1 hk)
theorem withinB_false {s : ByteArray} {lo hi : Int} {k : Nat} (hk : k < s.size) (h : ¬ (lo ≤ bt s k ∧ bt s k ≤ hi)) : withinB s lo hi = false := by
  unfold withinB
  rw [List.all_eq_false]
  exact ⟨k, List.mem_range.2 hk, by simpa using h⟩

theorem within_any (s : ByteArray) (lo hi : Int) (hs : s.size ≤ 9223372036854775807) (w : World) :
    Calls Tryz.prog 67 #[.string s, .int .u8 lo, .int .u8 hi] w fun e w' => e = .returned (.bool (withinB s lo hi)) ∧ w' = w := by
  go_enter Tryz.func67, Tryz.ntmps67
  go_wp2
  go_loopw [7, 10] (fun t i wr => ∃ k : Nat, k ≤ s.size ∧ i = .int .i64 k ∧ (∀ j, j < k → lo ≤ bt s j ∧ bt s j ≤ hi) ∧ wr = w) (fun _ i _ => s.size - (intOf i).toNat)
  case atStart => exact ⟨0, by omega, rfl, fun j hj => by omega, rfl⟩
  case round =>
    obtain ⟨k, hk, rfl, hB, rfl⟩ := hrel
    have HB := Lib.hid hB
    clear hB
    by_cases hlt : k < s.size
    · have e := bt_eq hlt
      by_cases h1 : bt s k < lo
      · have hw := withinB_false (lo := lo) (hi := hi) hlt (by omega)
        rw [e] at h1
        have HW := Lib.hid hw
        clear hw e
        go_wp2
        go_ret
        exact ⟨by rw [HW.out]; rfl, rfl⟩
      · by_cases h2 : hi < bt s k
        · have hw := withinB_false (lo := lo) (hi := hi) hlt (by omega)
          rw [e] at h1 h2
          have HW := Lib.hid hw
          have h3 : lo ≤ (s[k].toNat : Int) := by omega
          clear hw e h1
          go_wp2
          go_ret
          exact ⟨by rw [HW.out]; rfl, rfl⟩
        · have HN : Hid (∀ j, j < k + 1 → lo ≤ bt s j ∧ bt s j ≤ hi) := Lib.hid (fun j hj => by
            by_cases hjk : j = k
            · subst hjk; omega
            · exact HB.out j (by omega))
          rw [e] at h1 h2
          have h3 : lo ≤ (s[k].toNat : Int) := by omega
          have h4 : (s[k].toNat : Int) ≤ hi := by omega
          clear e h1 h2
          go_wp2
          exact ⟨⟨k + 1, by omega, by go_num, HN.out, trivial⟩, by simp [intOf]; omega⟩
    · obtain rfl : k = s.size := by omega
      have hw := withinB_true HB.out
      have HW := Lib.hid hw
      clear hw
      go_wp2
      go_ret
      exact ⟨by rw [HW.out]; rfl, rfl⟩
/-- Does a node compare a field with a value? -/
def isT (op : Int) : Bool := op == 5 || op == 6 || op == 7
theorem isTest_any (op n i : Int) (f k t : ByteArray) (A : Option Addr) (l c : Nat) (w : World) :
    Calls Tryz.prog 65 #[.agg #[.int .i64 op, .string f, .string k, .int .i64 n, .string t, .int .i64 i, .slice A l c]] w fun e w' => e = .returned (.bool (isT op)) ∧ Below w.heap.size w w' := by
  go_enter Tryz.func65, Tryz.ntmps65
  go_wp2
  all_goals
    go_ret
    refine ⟨?_, below_alloc _ _⟩
    simp [isT, *]
/-- Is it a name? -/
def nameB (s : ByteArray) : Bool := !s.toList.isEmpty && (decide ((s.size : Int) ≤ 64) && withinB s 33 126)
theorem IsName_any (s : ByteArray) (hs : s.size ≤ 9223372036854775807) (w : World) :
    Calls Tryz.prog 41 #[.string s] w fun e w' => e = .returned (.bool (nameB s)) ∧ w' = w := by
  go_enter Tryz.func41, Tryz.ntmps41
  go_wp2_with (first
    | (go_at_call 67; (with_reducible refine (within_any s 33 126 hs _).mono ?_); rintro e w' ⟨rfl, rfl⟩))
  all_goals
    go_ret
    refine ⟨?_, rfl⟩
    simp [nameB, *]
    try (intros; omega)
/-- The error of a value. -/
def valC (n i : Int) (t : ByteArray) : Int :=
  if n = 1 then (if 4096 < (t.size : Int) then 5 else if withinB t 32 126 = true ∧ i = 0 then 0 else 3)
  else if n = 2 then (if 4096 < (t.size : Int) then 5 else if t.toList = [] ∧ -1099511627776 ≤ i ∧ i ≤ 1099511627776 then 0 else 3)
  else if n = 3 then (if 4096 < (t.size : Int) then 5 else if t.toList = [] ∧ (i = 0 ∨ i = 1) then 0 else 3)
  else 12
theorem CheckValue_any (n i : Int) (t : ByteArray) (hs : t.size ≤ 9223372036854775807) (w : World) :
    Calls Tryz.prog 66 #[.agg #[.int .i64 n, .string t, .int .i64 i]] w fun e w' => e = .returned (.int .i64 (valC n i t)) ∧ Below w.heap.size w w' := by
  go_enter Tryz.func66, Tryz.ntmps66
  go_wp2_with (first
    | (go_at_call 67; (with_reducible refine (within_any t 32 126 hs _).mono ?_); rintro e w' ⟨rfl, rfl⟩))
  all_goals
    go_ret
    refine ⟨?_, below_alloc _ _⟩
    have hleaf : True := trivial
    simp_all [valC]
    try omega
end Go.Proofs.YtnddlpfmagdbfaaGreatDoor
/- Contracts: the error of a predicate's node itself (printed by mknode.py). -/
namespace Go.Proofs.YtnddlpfmagdbfaaGreatDoor
open Go Go.Proofs Go.RowKit
set_option linter.unusedVariables false
set_option linter.unusedSimpArgs false

/-- A predicate's value. -/
def PredAt (w : World) (b : Nat) (op n i : Int) (f k t : ByteArray) (A : Option Addr) (l c : Nat) (W : World) : Prop :=
  W.cell? ⟨b, 0, none⟩ = some (.int .i64 op) ∧ W.cell? ⟨b, 1, none⟩ = some (.string f) ∧ W.cell? ⟨b, 2, none⟩ = some (.string k) ∧ W.cell? ⟨b, 3, none⟩ = some (.int .i64 n) ∧ W.cell? ⟨b, 4, none⟩ = some (.string t) ∧ W.cell? ⟨b, 5, none⟩ = some (.int .i64 i) ∧ W.cell? ⟨b, 6, none⟩ = some (.slice A l c) ∧ Below w.heap.size w W
theorem PredAt.keep {w W W' : World} {b : Nat} {op n i : Int} {f k t : ByteArray} {A : Option Addr} {l c : Nat} (h : PredAt w b op n i f k t A l c W) (hk : Below W.heap.size W W') : PredAt w b op n i f k t A l c W' := by
  obtain ⟨h0, h1, h2, h3, h4, h5, h6, hb⟩ := h
  have hlt := World.block_lt_of_cell? W _ h0
  exact ⟨(hk.cell hlt).trans h0, (hk.cell (p := ⟨b, 1, none⟩) hlt).trans h1, (hk.cell (p := ⟨b, 2, none⟩) hlt).trans h2, (hk.cell (p := ⟨b, 3, none⟩) hlt).trans h3, (hk.cell (p := ⟨b, 4, none⟩) hlt).trans h4, (hk.cell (p := ⟨b, 5, none⟩) hlt).trans h5, (hk.cell (p := ⟨b, 6, none⟩) hlt).trans h6, hb.trans (hk.mono hb.size)⟩
theorem PredAt.drew {w W : World} {b : Nat} {op n i : Int} {f k t : ByteArray} {A : Option Addr} {l c : Nat} (h : PredAt w b op n i f k t A l c W) : PredAt w b op n i f k t A l c W.drew :=
  h.keep ⟨rfl, rfl, rfl, Nat.le_refl _, fun _ _ => rfl⟩

/-- Has a node the number of arguments that it should have? -/
def argsB (op : Int) (l : Nat) : Bool := if op = 1 ∨ op = 2 then decide (1 ≤ l) else if op = 3 then decide (l = 1) else decide (l = 0)
/-- The error of a node itself. -/
def nodeX (l : Nat) (op n i : Int) (f k t : ByteArray) : Int :=
  if op = 0 ∨ op = 1 ∨ op = 2 ∨ op = 3 then (if argsB op l = false then 3 else if f.toList = [] ∧ n = 0 ∧ t.toList = [] ∧ i = 0 ∧ k.toList = [] then 0 else 3)
  else if op = 4 then (if argsB op l = false then 3 else if f.toList = [] ∧ n = 0 ∧ t.toList = [] ∧ i = 0 then (if nameB k = true then 0 else 11) else 3)
  else if op = 5 ∨ op = 6 ∨ op = 7 then
    (if argsB op l = false then 3
     else if nameB f = false ∨ (f.toList = [97, 116, 116, 114] ∧ nameB k = false) ∨ (f.toList ≠ [97, 116, 116, 114] ∧ k.toList ≠ []) then 11
     else if valC n i t ≠ 0 then valC n i t
     else if (op = 6 ∧ n = 3) ∨ (op = 7 ∧ n ≠ 1) then 13 else 0)
  else 12
set_option maxHeartbeats 8000000 in
theorem node_0 (n i : Int) (f k t : ByteArray) (A : Option Addr) (c : Nat) (hf : f.size ≤ 9223372036854775807) (hk : k.size ≤ 9223372036854775807) (ht : t.size ≤ 9223372036854775807) (w : World) :
    Calls Tryz.prog 39 #[.agg #[.int .i64 0, .string f, .string k, .int .i64 n, .string t, .int .i64 i, .slice A 0 c]] w fun e w' => e = .returned (.int .i64 (nodeX 0 0 n i f k t)) ∧ Below w.heap.size w w' := by
  have hA : PredAt w w.heap.size 0 n i f k t A 0 c (w.alloc (.cells #[.int .i64 0, .string f, .string k, .int .i64 n, .string t, .int .i64 i, .slice A 0 c] 34)) := by
    refine ⟨?_, ?_, ?_, ?_, ?_, ?_, ?_, below_alloc _ _⟩ <;> simp only [World.cell?, heap_alloc_last] <;> rfl
  have HA := Lib.hid hA
  clear hA
  go_enter Tryz.func39, Tryz.ntmps39
  go_wp2_with fail
  go_region_held (fun W => W.cell? ⟨w.heap.size, 0, none⟩ = some (.int .i64 0) ∧ W.cell? ⟨w.heap.size, 1, none⟩ = some (.string f) ∧ W.cell? ⟨w.heap.size, 2, none⟩ = some (.string k) ∧ W.cell? ⟨w.heap.size, 3, none⟩ = some (.int .i64 n) ∧ W.cell? ⟨w.heap.size, 4, none⟩ = some (.string t) ∧ W.cell? ⟨w.heap.size, 5, none⟩ = some (.int .i64 i) ∧ W.cell? ⟨w.heap.size, 6, none⟩ = some (.slice A 0 c) ∧ Below w.heap.size w W)
    (first
      | exact HA.out.drew
      | exact PredAt.keep (w := w) (b := w.heap.size) (op := 0) (n := n) (i := i) (f := f) (k := k) (t := t) (A := A) (l := 0) (c := c) (by assumption) (by assumption))
    (first
      | (go_at_call 65; (with_reducible refine (isTest_any _ _ _ _ _ _ _ _ _ _).mono ?_); rintro e w' ⟨rfl, hbb⟩))
  rename_i hH
  have HH : Hid (PredAt w w.heap.size 0 n i f k t A 0 c _) := Lib.hid hH
  obtain ⟨g0, g1, g2, g3, g4, g5, g6, hB⟩ := hH
  have HB := Lib.hid hB
  clear hB HA
  have hT : isT 0 = false := rfl
  rw [hT]
  clear hT
  go_wp2_with (first
    | (go_at_call 41; (with_reducible refine (IsName_any _ (by assumption) _).mono ?_); rintro e w' ⟨rfl, rfl⟩)
    | (go_at_call 66; (with_reducible refine (CheckValue_any _ _ _ (by assumption) _).mono ?_); rintro e w' ⟨rfl, hbb⟩; obtain ⟨k0, k1, k2, k3, k4, k5, k6, hB2⟩ := HH.out.keep hbb; have HB2 := Lib.hid hB2; clear hB2 hbb))
  all_goals
    go_ret
    refine ⟨?_, ?_⟩
    · simp_all [nodeX, argsB]
    · first
        | exact HB2.out
        | exact HB.out
set_option maxHeartbeats 8000000 in
theorem node_4 (n i : Int) (f k t : ByteArray) (A : Option Addr) (c : Nat) (hf : f.size ≤ 9223372036854775807) (hk : k.size ≤ 9223372036854775807) (ht : t.size ≤ 9223372036854775807) (w : World) :
    Calls Tryz.prog 39 #[.agg #[.int .i64 4, .string f, .string k, .int .i64 n, .string t, .int .i64 i, .slice A 0 c]] w fun e w' => e = .returned (.int .i64 (nodeX 0 4 n i f k t)) ∧ Below w.heap.size w w' := by
  have hA : PredAt w w.heap.size 4 n i f k t A 0 c (w.alloc (.cells #[.int .i64 4, .string f, .string k, .int .i64 n, .string t, .int .i64 i, .slice A 0 c] 34)) := by
    refine ⟨?_, ?_, ?_, ?_, ?_, ?_, ?_, below_alloc _ _⟩ <;> simp only [World.cell?, heap_alloc_last] <;> rfl
  have HA := Lib.hid hA
  clear hA
  go_enter Tryz.func39, Tryz.ntmps39
  go_wp2_with fail
  go_region_held (fun W => W.cell? ⟨w.heap.size, 0, none⟩ = some (.int .i64 4) ∧ W.cell? ⟨w.heap.size, 1, none⟩ = some (.string f) ∧ W.cell? ⟨w.heap.size, 2, none⟩ = some (.string k) ∧ W.cell? ⟨w.heap.size, 3, none⟩ = some (.int .i64 n) ∧ W.cell? ⟨w.heap.size, 4, none⟩ = some (.string t) ∧ W.cell? ⟨w.heap.size, 5, none⟩ = some (.int .i64 i) ∧ W.cell? ⟨w.heap.size, 6, none⟩ = some (.slice A 0 c) ∧ Below w.heap.size w W)
    (first
      | exact HA.out.drew
      | exact PredAt.keep (w := w) (b := w.heap.size) (op := 4) (n := n) (i := i) (f := f) (k := k) (t := t) (A := A) (l := 0) (c := c) (by assumption) (by assumption))
    (first
      | (go_at_call 65; (with_reducible refine (isTest_any _ _ _ _ _ _ _ _ _ _).mono ?_); rintro e w' ⟨rfl, hbb⟩))
  rename_i hH
  have HH : Hid (PredAt w w.heap.size 4 n i f k t A 0 c _) := Lib.hid hH
  obtain ⟨g0, g1, g2, g3, g4, g5, g6, hB⟩ := hH
  have HB := Lib.hid hB
  clear hB HA
  have hT : isT 4 = false := rfl
  rw [hT]
  clear hT
  go_wp2_with (first
    | (go_at_call 41; (with_reducible refine (IsName_any _ (by assumption) _).mono ?_); rintro e w' ⟨rfl, rfl⟩)
    | (go_at_call 66; (with_reducible refine (CheckValue_any _ _ _ (by assumption) _).mono ?_); rintro e w' ⟨rfl, hbb⟩; obtain ⟨k0, k1, k2, k3, k4, k5, k6, hB2⟩ := HH.out.keep hbb; have HB2 := Lib.hid hB2; clear hB2 hbb))
  all_goals
    go_ret
    refine ⟨?_, ?_⟩
    · simp_all [nodeX, argsB]
    · first
        | exact HB2.out
        | exact HB.out
set_option maxHeartbeats 8000000 in
theorem node_5 (n i : Int) (f k t : ByteArray) (A : Option Addr) (c : Nat) (hf : f.size ≤ 9223372036854775807) (hk : k.size ≤ 9223372036854775807) (ht : t.size ≤ 9223372036854775807) (w : World) :
    Calls Tryz.prog 39 #[.agg #[.int .i64 5, .string f, .string k, .int .i64 n, .string t, .int .i64 i, .slice A 0 c]] w fun e w' => e = .returned (.int .i64 (nodeX 0 5 n i f k t)) ∧ Below w.heap.size w w' := by
  have hA : PredAt w w.heap.size 5 n i f k t A 0 c (w.alloc (.cells #[.int .i64 5, .string f, .string k, .int .i64 n, .string t, .int .i64 i, .slice A 0 c] 34)) := by
    refine ⟨?_, ?_, ?_, ?_, ?_, ?_, ?_, below_alloc _ _⟩ <;> simp only [World.cell?, heap_alloc_last] <;> rfl
  have HA := Lib.hid hA
  clear hA
  go_enter Tryz.func39, Tryz.ntmps39
  go_wp2_with fail
  go_region_held (fun W => W.cell? ⟨w.heap.size, 0, none⟩ = some (.int .i64 5) ∧ W.cell? ⟨w.heap.size, 1, none⟩ = some (.string f) ∧ W.cell? ⟨w.heap.size, 2, none⟩ = some (.string k) ∧ W.cell? ⟨w.heap.size, 3, none⟩ = some (.int .i64 n) ∧ W.cell? ⟨w.heap.size, 4, none⟩ = some (.string t) ∧ W.cell? ⟨w.heap.size, 5, none⟩ = some (.int .i64 i) ∧ W.cell? ⟨w.heap.size, 6, none⟩ = some (.slice A 0 c) ∧ Below w.heap.size w W)
    (first
      | exact HA.out.drew
      | exact PredAt.keep (w := w) (b := w.heap.size) (op := 5) (n := n) (i := i) (f := f) (k := k) (t := t) (A := A) (l := 0) (c := c) (by assumption) (by assumption))
    (first
      | (go_at_call 65; (with_reducible refine (isTest_any _ _ _ _ _ _ _ _ _ _).mono ?_); rintro e w' ⟨rfl, hbb⟩))
  rename_i hH
  have HH : Hid (PredAt w w.heap.size 5 n i f k t A 0 c _) := Lib.hid hH
  obtain ⟨g0, g1, g2, g3, g4, g5, g6, hB⟩ := hH
  have HB := Lib.hid hB
  clear hB HA
  have hT : isT 5 = true := rfl
  rw [hT]
  clear hT
  go_wp2_with (first
    | (go_at_call 41; (with_reducible refine (IsName_any _ (by assumption) _).mono ?_); rintro e w' ⟨rfl, rfl⟩)
    | (go_at_call 66; (with_reducible refine (CheckValue_any _ _ _ (by assumption) _).mono ?_); rintro e w' ⟨rfl, hbb⟩; obtain ⟨k0, k1, k2, k3, k4, k5, k6, hB2⟩ := HH.out.keep hbb; have HB2 := Lib.hid hB2; clear hB2 hbb))
  all_goals
    go_ret
    refine ⟨?_, ?_⟩
    · simp_all [nodeX, argsB]
    · first
        | exact HB2.out
        | exact HB.out
set_option maxHeartbeats 8000000 in
theorem node_6 (n i : Int) (f k t : ByteArray) (A : Option Addr) (c : Nat) (hf : f.size ≤ 9223372036854775807) (hk : k.size ≤ 9223372036854775807) (ht : t.size ≤ 9223372036854775807) (w : World) :
    Calls Tryz.prog 39 #[.agg #[.int .i64 6, .string f, .string k, .int .i64 n, .string t, .int .i64 i, .slice A 0 c]] w fun e w' => e = .returned (.int .i64 (nodeX 0 6 n i f k t)) ∧ Below w.heap.size w w' := by
  have hA : PredAt w w.heap.size 6 n i f k t A 0 c (w.alloc (.cells #[.int .i64 6, .string f, .string k, .int .i64 n, .string t, .int .i64 i, .slice A 0 c] 34)) := by
    refine ⟨?_, ?_, ?_, ?_, ?_, ?_, ?_, below_alloc _ _⟩ <;> simp only [World.cell?, heap_alloc_last] <;> rfl
  have HA := Lib.hid hA
  clear hA
  go_enter Tryz.func39, Tryz.ntmps39
  go_wp2_with fail
  go_region_held (fun W => W.cell? ⟨w.heap.size, 0, none⟩ = some (.int .i64 6) ∧ W.cell? ⟨w.heap.size, 1, none⟩ = some (.string f) ∧ W.cell? ⟨w.heap.size, 2, none⟩ = some (.string k) ∧ W.cell? ⟨w.heap.size, 3, none⟩ = some (.int .i64 n) ∧ W.cell? ⟨w.heap.size, 4, none⟩ = some (.string t) ∧ W.cell? ⟨w.heap.size, 5, none⟩ = some (.int .i64 i) ∧ W.cell? ⟨w.heap.size, 6, none⟩ = some (.slice A 0 c) ∧ Below w.heap.size w W)
    (first
      | exact HA.out.drew
      | exact PredAt.keep (w := w) (b := w.heap.size) (op := 6) (n := n) (i := i) (f := f) (k := k) (t := t) (A := A) (l := 0) (c := c) (by assumption) (by assumption))
    (first
      | (go_at_call 65; (with_reducible refine (isTest_any _ _ _ _ _ _ _ _ _ _).mono ?_); rintro e w' ⟨rfl, hbb⟩))
  rename_i hH
  have HH : Hid (PredAt w w.heap.size 6 n i f k t A 0 c _) := Lib.hid hH
  obtain ⟨g0, g1, g2, g3, g4, g5, g6, hB⟩ := hH
  have HB := Lib.hid hB
  clear hB HA
  have hT : isT 6 = true := rfl
  rw [hT]
  clear hT
  go_wp2_with (first
    | (go_at_call 41; (with_reducible refine (IsName_any _ (by assumption) _).mono ?_); rintro e w' ⟨rfl, rfl⟩)
    | (go_at_call 66; (with_reducible refine (CheckValue_any _ _ _ (by assumption) _).mono ?_); rintro e w' ⟨rfl, hbb⟩; obtain ⟨k0, k1, k2, k3, k4, k5, k6, hB2⟩ := HH.out.keep hbb; have HB2 := Lib.hid hB2; clear hB2 hbb))
  all_goals
    go_ret
    refine ⟨?_, ?_⟩
    · simp_all [nodeX, argsB]
    · first
        | exact HB2.out
        | exact HB.out
set_option maxHeartbeats 8000000 in
theorem node_7 (n i : Int) (f k t : ByteArray) (A : Option Addr) (c : Nat) (hf : f.size ≤ 9223372036854775807) (hk : k.size ≤ 9223372036854775807) (ht : t.size ≤ 9223372036854775807) (w : World) :
    Calls Tryz.prog 39 #[.agg #[.int .i64 7, .string f, .string k, .int .i64 n, .string t, .int .i64 i, .slice A 0 c]] w fun e w' => e = .returned (.int .i64 (nodeX 0 7 n i f k t)) ∧ Below w.heap.size w w' := by
  have hA : PredAt w w.heap.size 7 n i f k t A 0 c (w.alloc (.cells #[.int .i64 7, .string f, .string k, .int .i64 n, .string t, .int .i64 i, .slice A 0 c] 34)) := by
    refine ⟨?_, ?_, ?_, ?_, ?_, ?_, ?_, below_alloc _ _⟩ <;> simp only [World.cell?, heap_alloc_last] <;> rfl
  have HA := Lib.hid hA
  clear hA
  go_enter Tryz.func39, Tryz.ntmps39
  go_wp2_with fail
  go_region_held (fun W => W.cell? ⟨w.heap.size, 0, none⟩ = some (.int .i64 7) ∧ W.cell? ⟨w.heap.size, 1, none⟩ = some (.string f) ∧ W.cell? ⟨w.heap.size, 2, none⟩ = some (.string k) ∧ W.cell? ⟨w.heap.size, 3, none⟩ = some (.int .i64 n) ∧ W.cell? ⟨w.heap.size, 4, none⟩ = some (.string t) ∧ W.cell? ⟨w.heap.size, 5, none⟩ = some (.int .i64 i) ∧ W.cell? ⟨w.heap.size, 6, none⟩ = some (.slice A 0 c) ∧ Below w.heap.size w W)
    (first
      | exact HA.out.drew
      | exact PredAt.keep (w := w) (b := w.heap.size) (op := 7) (n := n) (i := i) (f := f) (k := k) (t := t) (A := A) (l := 0) (c := c) (by assumption) (by assumption))
    (first
      | (go_at_call 65; (with_reducible refine (isTest_any _ _ _ _ _ _ _ _ _ _).mono ?_); rintro e w' ⟨rfl, hbb⟩))
  rename_i hH
  have HH : Hid (PredAt w w.heap.size 7 n i f k t A 0 c _) := Lib.hid hH
  obtain ⟨g0, g1, g2, g3, g4, g5, g6, hB⟩ := hH
  have HB := Lib.hid hB
  clear hB HA
  have hT : isT 7 = true := rfl
  rw [hT]
  clear hT
  go_wp2_with (first
    | (go_at_call 41; (with_reducible refine (IsName_any _ (by assumption) _).mono ?_); rintro e w' ⟨rfl, rfl⟩)
    | (go_at_call 66; (with_reducible refine (CheckValue_any _ _ _ (by assumption) _).mono ?_); rintro e w' ⟨rfl, hbb⟩; obtain ⟨k0, k1, k2, k3, k4, k5, k6, hB2⟩ := HH.out.keep hbb; have HB2 := Lib.hid hB2; clear hB2 hbb))
  all_goals
    go_ret
    refine ⟨?_, ?_⟩
    · simp_all [nodeX, argsB]
    · first
        | exact HB2.out
        | exact HB.out
set_option maxHeartbeats 8000000 in
theorem node_1 (n i : Int) (f k t : ByteArray) (A : Option Addr) (c : Nat) (l : Nat) (hl : 1 ≤ l) (hL : l ≤ 1000000) (hf : f.size ≤ 9223372036854775807) (hk : k.size ≤ 9223372036854775807) (ht : t.size ≤ 9223372036854775807) (w : World) :
    Calls Tryz.prog 39 #[.agg #[.int .i64 1, .string f, .string k, .int .i64 n, .string t, .int .i64 i, .slice A l c]] w fun e w' => e = .returned (.int .i64 (nodeX l 1 n i f k t)) ∧ Below w.heap.size w w' := by
  have hd : decide ((1 : Int) ≤ (l : Int)) = true := decide_eq_true (by omega)
  have hA : PredAt w w.heap.size 1 n i f k t A l c (w.alloc (.cells #[.int .i64 1, .string f, .string k, .int .i64 n, .string t, .int .i64 i, .slice A l c] 34)) := by
    refine ⟨?_, ?_, ?_, ?_, ?_, ?_, ?_, below_alloc _ _⟩ <;> simp only [World.cell?, heap_alloc_last] <;> rfl
  have HA := Lib.hid hA
  clear hA
  go_enter Tryz.func39, Tryz.ntmps39
  go_wp2_with fail
  go_region_held (fun W => W.cell? ⟨w.heap.size, 0, none⟩ = some (.int .i64 1) ∧ W.cell? ⟨w.heap.size, 1, none⟩ = some (.string f) ∧ W.cell? ⟨w.heap.size, 2, none⟩ = some (.string k) ∧ W.cell? ⟨w.heap.size, 3, none⟩ = some (.int .i64 n) ∧ W.cell? ⟨w.heap.size, 4, none⟩ = some (.string t) ∧ W.cell? ⟨w.heap.size, 5, none⟩ = some (.int .i64 i) ∧ W.cell? ⟨w.heap.size, 6, none⟩ = some (.slice A l c) ∧ Below w.heap.size w W)
    (first
      | exact HA.out.drew
      | exact PredAt.keep (w := w) (b := w.heap.size) (op := 1) (n := n) (i := i) (f := f) (k := k) (t := t) (A := A) (l := l) (c := c) (by assumption) (by assumption))
    (first
      | (go_at_call 65; (with_reducible refine (isTest_any _ _ _ _ _ _ _ _ _ _).mono ?_); rintro e w' ⟨rfl, hbb⟩))
  rename_i hH
  have HH : Hid (PredAt w w.heap.size 1 n i f k t A l c _) := Lib.hid hH
  obtain ⟨g0, g1, g2, g3, g4, g5, g6, hB⟩ := hH
  have HB := Lib.hid hB
  clear hB HA
  have hT : isT 1 = false := rfl
  rw [hT]
  clear hT
  go_wp2_with (first
    | (go_at_call 41; (with_reducible refine (IsName_any _ (by assumption) _).mono ?_); rintro e w' ⟨rfl, rfl⟩)
    | (go_at_call 66; (with_reducible refine (CheckValue_any _ _ _ (by assumption) _).mono ?_); rintro e w' ⟨rfl, hbb⟩; obtain ⟨k0, k1, k2, k3, k4, k5, k6, hB2⟩ := HH.out.keep hbb; have HB2 := Lib.hid hB2; clear hB2 hbb))
  all_goals
    go_ret
    refine ⟨?_, ?_⟩
    · simp_all [nodeX, argsB]
    · first
        | exact HB2.out
        | exact HB.out
set_option maxHeartbeats 8000000 in
theorem node_2 (n i : Int) (f k t : ByteArray) (A : Option Addr) (c : Nat) (l : Nat) (hl : 1 ≤ l) (hL : l ≤ 1000000) (hf : f.size ≤ 9223372036854775807) (hk : k.size ≤ 9223372036854775807) (ht : t.size ≤ 9223372036854775807) (w : World) :
    Calls Tryz.prog 39 #[.agg #[.int .i64 2, .string f, .string k, .int .i64 n, .string t, .int .i64 i, .slice A l c]] w fun e w' => e = .returned (.int .i64 (nodeX l 2 n i f k t)) ∧ Below w.heap.size w w' := by
  have hd : decide ((1 : Int) ≤ (l : Int)) = true := decide_eq_true (by omega)
  have hA : PredAt w w.heap.size 2 n i f k t A l c (w.alloc (.cells #[.int .i64 2, .string f, .string k, .int .i64 n, .string t, .int .i64 i, .slice A l c] 34)) := by
    refine ⟨?_, ?_, ?_, ?_, ?_, ?_, ?_, below_alloc _ _⟩ <;> simp only [World.cell?, heap_alloc_last] <;> rfl
  have HA := Lib.hid hA
  clear hA
  go_enter Tryz.func39, Tryz.ntmps39
  go_wp2_with fail
  go_region_held (fun W => W.cell? ⟨w.heap.size, 0, none⟩ = some (.int .i64 2) ∧ W.cell? ⟨w.heap.size, 1, none⟩ = some (.string f) ∧ W.cell? ⟨w.heap.size, 2, none⟩ = some (.string k) ∧ W.cell? ⟨w.heap.size, 3, none⟩ = some (.int .i64 n) ∧ W.cell? ⟨w.heap.size, 4, none⟩ = some (.string t) ∧ W.cell? ⟨w.heap.size, 5, none⟩ = some (.int .i64 i) ∧ W.cell? ⟨w.heap.size, 6, none⟩ = some (.slice A l c) ∧ Below w.heap.size w W)
    (first
      | exact HA.out.drew
      | exact PredAt.keep (w := w) (b := w.heap.size) (op := 2) (n := n) (i := i) (f := f) (k := k) (t := t) (A := A) (l := l) (c := c) (by assumption) (by assumption))
    (first
      | (go_at_call 65; (with_reducible refine (isTest_any _ _ _ _ _ _ _ _ _ _).mono ?_); rintro e w' ⟨rfl, hbb⟩))
  rename_i hH
  have HH : Hid (PredAt w w.heap.size 2 n i f k t A l c _) := Lib.hid hH
  obtain ⟨g0, g1, g2, g3, g4, g5, g6, hB⟩ := hH
  have HB := Lib.hid hB
  clear hB HA
  have hT : isT 2 = false := rfl
  rw [hT]
  clear hT
  go_wp2_with (first
    | (go_at_call 41; (with_reducible refine (IsName_any _ (by assumption) _).mono ?_); rintro e w' ⟨rfl, rfl⟩)
    | (go_at_call 66; (with_reducible refine (CheckValue_any _ _ _ (by assumption) _).mono ?_); rintro e w' ⟨rfl, hbb⟩; obtain ⟨k0, k1, k2, k3, k4, k5, k6, hB2⟩ := HH.out.keep hbb; have HB2 := Lib.hid hB2; clear hB2 hbb))
  all_goals
    go_ret
    refine ⟨?_, ?_⟩
    · simp_all [nodeX, argsB]
    · first
        | exact HB2.out
        | exact HB.out
set_option maxHeartbeats 8000000 in
theorem node_3 (n i : Int) (f k t : ByteArray) (A : Option Addr) (c : Nat) (hf : f.size ≤ 9223372036854775807) (hk : k.size ≤ 9223372036854775807) (ht : t.size ≤ 9223372036854775807) (w : World) :
    Calls Tryz.prog 39 #[.agg #[.int .i64 3, .string f, .string k, .int .i64 n, .string t, .int .i64 i, .slice A 1 c]] w fun e w' => e = .returned (.int .i64 (nodeX 1 3 n i f k t)) ∧ Below w.heap.size w w' := by
  have hA : PredAt w w.heap.size 3 n i f k t A 1 c (w.alloc (.cells #[.int .i64 3, .string f, .string k, .int .i64 n, .string t, .int .i64 i, .slice A 1 c] 34)) := by
    refine ⟨?_, ?_, ?_, ?_, ?_, ?_, ?_, below_alloc _ _⟩ <;> simp only [World.cell?, heap_alloc_last] <;> rfl
  have HA := Lib.hid hA
  clear hA
  go_enter Tryz.func39, Tryz.ntmps39
  go_wp2_with fail
  go_region_held (fun W => W.cell? ⟨w.heap.size, 0, none⟩ = some (.int .i64 3) ∧ W.cell? ⟨w.heap.size, 1, none⟩ = some (.string f) ∧ W.cell? ⟨w.heap.size, 2, none⟩ = some (.string k) ∧ W.cell? ⟨w.heap.size, 3, none⟩ = some (.int .i64 n) ∧ W.cell? ⟨w.heap.size, 4, none⟩ = some (.string t) ∧ W.cell? ⟨w.heap.size, 5, none⟩ = some (.int .i64 i) ∧ W.cell? ⟨w.heap.size, 6, none⟩ = some (.slice A 1 c) ∧ Below w.heap.size w W)
    (first
      | exact HA.out.drew
      | exact PredAt.keep (w := w) (b := w.heap.size) (op := 3) (n := n) (i := i) (f := f) (k := k) (t := t) (A := A) (l := 1) (c := c) (by assumption) (by assumption))
    (first
      | (go_at_call 65; (with_reducible refine (isTest_any _ _ _ _ _ _ _ _ _ _).mono ?_); rintro e w' ⟨rfl, hbb⟩))
  rename_i hH
  have HH : Hid (PredAt w w.heap.size 3 n i f k t A 1 c _) := Lib.hid hH
  obtain ⟨g0, g1, g2, g3, g4, g5, g6, hB⟩ := hH
  have HB := Lib.hid hB
  clear hB HA
  have hT : isT 3 = false := rfl
  rw [hT]
  clear hT
  go_wp2_with (first
    | (go_at_call 41; (with_reducible refine (IsName_any _ (by assumption) _).mono ?_); rintro e w' ⟨rfl, rfl⟩)
    | (go_at_call 66; (with_reducible refine (CheckValue_any _ _ _ (by assumption) _).mono ?_); rintro e w' ⟨rfl, hbb⟩; obtain ⟨k0, k1, k2, k3, k4, k5, k6, hB2⟩ := HH.out.keep hbb; have HB2 := Lib.hid hB2; clear hB2 hbb))
  all_goals
    go_ret
    refine ⟨?_, ?_⟩
    · simp_all [nodeX, argsB]
    · first
        | exact HB2.out
        | exact HB.out
set_option maxHeartbeats 8000000 in
theorem node_b1 (n i : Int) (f k t : ByteArray) (A : Option Addr) (c : Nat) (hf : f.size ≤ 9223372036854775807) (hk : k.size ≤ 9223372036854775807) (ht : t.size ≤ 9223372036854775807) (w : World) :
    Calls Tryz.prog 39 #[.agg #[.int .i64 1, .string f, .string k, .int .i64 n, .string t, .int .i64 i, .slice A 0 c]] w fun e w' => e = .returned (.int .i64 (nodeX 0 1 n i f k t)) ∧ Below w.heap.size w w' := by
  have hA : PredAt w w.heap.size 1 n i f k t A 0 c (w.alloc (.cells #[.int .i64 1, .string f, .string k, .int .i64 n, .string t, .int .i64 i, .slice A 0 c] 34)) := by
    refine ⟨?_, ?_, ?_, ?_, ?_, ?_, ?_, below_alloc _ _⟩ <;> simp only [World.cell?, heap_alloc_last] <;> rfl
  have HA := Lib.hid hA
  clear hA
  go_enter Tryz.func39, Tryz.ntmps39
  go_wp2_with fail
  go_region_held (fun W => W.cell? ⟨w.heap.size, 0, none⟩ = some (.int .i64 1) ∧ W.cell? ⟨w.heap.size, 1, none⟩ = some (.string f) ∧ W.cell? ⟨w.heap.size, 2, none⟩ = some (.string k) ∧ W.cell? ⟨w.heap.size, 3, none⟩ = some (.int .i64 n) ∧ W.cell? ⟨w.heap.size, 4, none⟩ = some (.string t) ∧ W.cell? ⟨w.heap.size, 5, none⟩ = some (.int .i64 i) ∧ W.cell? ⟨w.heap.size, 6, none⟩ = some (.slice A 0 c) ∧ Below w.heap.size w W)
    (first
      | exact HA.out.drew
      | exact PredAt.keep (w := w) (b := w.heap.size) (op := 1) (n := n) (i := i) (f := f) (k := k) (t := t) (A := A) (l := 0) (c := c) (by assumption) (by assumption))
    (first
      | (go_at_call 65; (with_reducible refine (isTest_any _ _ _ _ _ _ _ _ _ _).mono ?_); rintro e w' ⟨rfl, hbb⟩))
  rename_i hH
  have HH : Hid (PredAt w w.heap.size 1 n i f k t A 0 c _) := Lib.hid hH
  obtain ⟨g0, g1, g2, g3, g4, g5, g6, hB⟩ := hH
  have HB := Lib.hid hB
  clear hB HA
  have hT : isT 1 = false := rfl
  rw [hT]
  clear hT
  go_wp2_with (first
    | (go_at_call 41; (with_reducible refine (IsName_any _ (by assumption) _).mono ?_); rintro e w' ⟨rfl, rfl⟩)
    | (go_at_call 66; (with_reducible refine (CheckValue_any _ _ _ (by assumption) _).mono ?_); rintro e w' ⟨rfl, hbb⟩; obtain ⟨k0, k1, k2, k3, k4, k5, k6, hB2⟩ := HH.out.keep hbb; have HB2 := Lib.hid hB2; clear hB2 hbb))
  all_goals
    go_ret
    refine ⟨?_, ?_⟩
    · simp_all [nodeX, argsB]
    · first
        | exact HB2.out
        | exact HB.out
set_option maxHeartbeats 8000000 in
theorem node_b2 (n i : Int) (f k t : ByteArray) (A : Option Addr) (c : Nat) (hf : f.size ≤ 9223372036854775807) (hk : k.size ≤ 9223372036854775807) (ht : t.size ≤ 9223372036854775807) (w : World) :
    Calls Tryz.prog 39 #[.agg #[.int .i64 2, .string f, .string k, .int .i64 n, .string t, .int .i64 i, .slice A 0 c]] w fun e w' => e = .returned (.int .i64 (nodeX 0 2 n i f k t)) ∧ Below w.heap.size w w' := by
  have hA : PredAt w w.heap.size 2 n i f k t A 0 c (w.alloc (.cells #[.int .i64 2, .string f, .string k, .int .i64 n, .string t, .int .i64 i, .slice A 0 c] 34)) := by
    refine ⟨?_, ?_, ?_, ?_, ?_, ?_, ?_, below_alloc _ _⟩ <;> simp only [World.cell?, heap_alloc_last] <;> rfl
  have HA := Lib.hid hA
  clear hA
  go_enter Tryz.func39, Tryz.ntmps39
  go_wp2_with fail
  go_region_held (fun W => W.cell? ⟨w.heap.size, 0, none⟩ = some (.int .i64 2) ∧ W.cell? ⟨w.heap.size, 1, none⟩ = some (.string f) ∧ W.cell? ⟨w.heap.size, 2, none⟩ = some (.string k) ∧ W.cell? ⟨w.heap.size, 3, none⟩ = some (.int .i64 n) ∧ W.cell? ⟨w.heap.size, 4, none⟩ = some (.string t) ∧ W.cell? ⟨w.heap.size, 5, none⟩ = some (.int .i64 i) ∧ W.cell? ⟨w.heap.size, 6, none⟩ = some (.slice A 0 c) ∧ Below w.heap.size w W)
    (first
      | exact HA.out.drew
      | exact PredAt.keep (w := w) (b := w.heap.size) (op := 2) (n := n) (i := i) (f := f) (k := k) (t := t) (A := A) (l := 0) (c := c) (by assumption) (by assumption))
    (first
      | (go_at_call 65; (with_reducible refine (isTest_any _ _ _ _ _ _ _ _ _ _).mono ?_); rintro e w' ⟨rfl, hbb⟩))
  rename_i hH
  have HH : Hid (PredAt w w.heap.size 2 n i f k t A 0 c _) := Lib.hid hH
  obtain ⟨g0, g1, g2, g3, g4, g5, g6, hB⟩ := hH
  have HB := Lib.hid hB
  clear hB HA
  have hT : isT 2 = false := rfl
  rw [hT]
  clear hT
  go_wp2_with (first
    | (go_at_call 41; (with_reducible refine (IsName_any _ (by assumption) _).mono ?_); rintro e w' ⟨rfl, rfl⟩)
    | (go_at_call 66; (with_reducible refine (CheckValue_any _ _ _ (by assumption) _).mono ?_); rintro e w' ⟨rfl, hbb⟩; obtain ⟨k0, k1, k2, k3, k4, k5, k6, hB2⟩ := HH.out.keep hbb; have HB2 := Lib.hid hB2; clear hB2 hbb))
  all_goals
    go_ret
    refine ⟨?_, ?_⟩
    · simp_all [nodeX, argsB]
    · first
        | exact HB2.out
        | exact HB.out
set_option maxHeartbeats 8000000 in
theorem node_b3 (n i : Int) (f k t : ByteArray) (A : Option Addr) (c : Nat) (l : Nat) (hl : ¬ l = 1) (hL : l ≤ 1000000) (hf : f.size ≤ 9223372036854775807) (hk : k.size ≤ 9223372036854775807) (ht : t.size ≤ 9223372036854775807) (w : World) :
    Calls Tryz.prog 39 #[.agg #[.int .i64 3, .string f, .string k, .int .i64 n, .string t, .int .i64 i, .slice A l c]] w fun e w' => e = .returned (.int .i64 (nodeX l 3 n i f k t)) ∧ Below w.heap.size w w' := by
  have hd : ((l : Int) == 1) = false := by rw [beq_eq_false_iff_ne]; omega
  have hA : PredAt w w.heap.size 3 n i f k t A l c (w.alloc (.cells #[.int .i64 3, .string f, .string k, .int .i64 n, .string t, .int .i64 i, .slice A l c] 34)) := by
    refine ⟨?_, ?_, ?_, ?_, ?_, ?_, ?_, below_alloc _ _⟩ <;> simp only [World.cell?, heap_alloc_last] <;> rfl
  have HA := Lib.hid hA
  clear hA
  go_enter Tryz.func39, Tryz.ntmps39
  go_wp2_with fail
  go_region_held (fun W => W.cell? ⟨w.heap.size, 0, none⟩ = some (.int .i64 3) ∧ W.cell? ⟨w.heap.size, 1, none⟩ = some (.string f) ∧ W.cell? ⟨w.heap.size, 2, none⟩ = some (.string k) ∧ W.cell? ⟨w.heap.size, 3, none⟩ = some (.int .i64 n) ∧ W.cell? ⟨w.heap.size, 4, none⟩ = some (.string t) ∧ W.cell? ⟨w.heap.size, 5, none⟩ = some (.int .i64 i) ∧ W.cell? ⟨w.heap.size, 6, none⟩ = some (.slice A l c) ∧ Below w.heap.size w W)
    (first
      | exact HA.out.drew
      | exact PredAt.keep (w := w) (b := w.heap.size) (op := 3) (n := n) (i := i) (f := f) (k := k) (t := t) (A := A) (l := l) (c := c) (by assumption) (by assumption))
    (first
      | (go_at_call 65; (with_reducible refine (isTest_any _ _ _ _ _ _ _ _ _ _).mono ?_); rintro e w' ⟨rfl, hbb⟩))
  rename_i hH
  have HH : Hid (PredAt w w.heap.size 3 n i f k t A l c _) := Lib.hid hH
  obtain ⟨g0, g1, g2, g3, g4, g5, g6, hB⟩ := hH
  have HB := Lib.hid hB
  clear hB HA
  have hT : isT 3 = false := rfl
  rw [hT]
  clear hT
  go_wp2_with (first
    | (go_at_call 41; (with_reducible refine (IsName_any _ (by assumption) _).mono ?_); rintro e w' ⟨rfl, rfl⟩)
    | (go_at_call 66; (with_reducible refine (CheckValue_any _ _ _ (by assumption) _).mono ?_); rintro e w' ⟨rfl, hbb⟩; obtain ⟨k0, k1, k2, k3, k4, k5, k6, hB2⟩ := HH.out.keep hbb; have HB2 := Lib.hid hB2; clear hB2 hbb))
  all_goals
    go_ret
    refine ⟨?_, ?_⟩
    · simp_all [nodeX, argsB]
    · first
        | exact HB2.out
        | exact HB.out
set_option maxHeartbeats 8000000 in
theorem node_b0 (n i : Int) (f k t : ByteArray) (A : Option Addr) (c : Nat) (l : Nat) (hl : ¬ l = 0) (hL : l ≤ 1000000) (hf : f.size ≤ 9223372036854775807) (hk : k.size ≤ 9223372036854775807) (ht : t.size ≤ 9223372036854775807) (w : World) :
    Calls Tryz.prog 39 #[.agg #[.int .i64 0, .string f, .string k, .int .i64 n, .string t, .int .i64 i, .slice A l c]] w fun e w' => e = .returned (.int .i64 (nodeX l 0 n i f k t)) ∧ Below w.heap.size w w' := by
  have hd : ((l : Int) == 0) = false := by rw [beq_eq_false_iff_ne]; omega
  have hA : PredAt w w.heap.size 0 n i f k t A l c (w.alloc (.cells #[.int .i64 0, .string f, .string k, .int .i64 n, .string t, .int .i64 i, .slice A l c] 34)) := by
    refine ⟨?_, ?_, ?_, ?_, ?_, ?_, ?_, below_alloc _ _⟩ <;> simp only [World.cell?, heap_alloc_last] <;> rfl
  have HA := Lib.hid hA
  clear hA
  go_enter Tryz.func39, Tryz.ntmps39
  go_wp2_with fail
  go_region_held (fun W => W.cell? ⟨w.heap.size, 0, none⟩ = some (.int .i64 0) ∧ W.cell? ⟨w.heap.size, 1, none⟩ = some (.string f) ∧ W.cell? ⟨w.heap.size, 2, none⟩ = some (.string k) ∧ W.cell? ⟨w.heap.size, 3, none⟩ = some (.int .i64 n) ∧ W.cell? ⟨w.heap.size, 4, none⟩ = some (.string t) ∧ W.cell? ⟨w.heap.size, 5, none⟩ = some (.int .i64 i) ∧ W.cell? ⟨w.heap.size, 6, none⟩ = some (.slice A l c) ∧ Below w.heap.size w W)
    (first
      | exact HA.out.drew
      | exact PredAt.keep (w := w) (b := w.heap.size) (op := 0) (n := n) (i := i) (f := f) (k := k) (t := t) (A := A) (l := l) (c := c) (by assumption) (by assumption))
    (first
      | (go_at_call 65; (with_reducible refine (isTest_any _ _ _ _ _ _ _ _ _ _).mono ?_); rintro e w' ⟨rfl, hbb⟩))
  rename_i hH
  have HH : Hid (PredAt w w.heap.size 0 n i f k t A l c _) := Lib.hid hH
  obtain ⟨g0, g1, g2, g3, g4, g5, g6, hB⟩ := hH
  have HB := Lib.hid hB
  clear hB HA
  have hT : isT 0 = false := rfl
  rw [hT]
  clear hT
  go_wp2_with (first
    | (go_at_call 41; (with_reducible refine (IsName_any _ (by assumption) _).mono ?_); rintro e w' ⟨rfl, rfl⟩)
    | (go_at_call 66; (with_reducible refine (CheckValue_any _ _ _ (by assumption) _).mono ?_); rintro e w' ⟨rfl, hbb⟩; obtain ⟨k0, k1, k2, k3, k4, k5, k6, hB2⟩ := HH.out.keep hbb; have HB2 := Lib.hid hB2; clear hB2 hbb))
  all_goals
    go_ret
    refine ⟨?_, ?_⟩
    · simp_all [nodeX, argsB]
    · first
        | exact HB2.out
        | exact HB.out
set_option maxHeartbeats 8000000 in
theorem node_b4 (n i : Int) (f k t : ByteArray) (A : Option Addr) (c : Nat) (l : Nat) (hl : ¬ l = 0) (hL : l ≤ 1000000) (hf : f.size ≤ 9223372036854775807) (hk : k.size ≤ 9223372036854775807) (ht : t.size ≤ 9223372036854775807) (w : World) :
    Calls Tryz.prog 39 #[.agg #[.int .i64 4, .string f, .string k, .int .i64 n, .string t, .int .i64 i, .slice A l c]] w fun e w' => e = .returned (.int .i64 (nodeX l 4 n i f k t)) ∧ Below w.heap.size w w' := by
  have hd : ((l : Int) == 0) = false := by rw [beq_eq_false_iff_ne]; omega
  have hA : PredAt w w.heap.size 4 n i f k t A l c (w.alloc (.cells #[.int .i64 4, .string f, .string k, .int .i64 n, .string t, .int .i64 i, .slice A l c] 34)) := by
    refine ⟨?_, ?_, ?_, ?_, ?_, ?_, ?_, below_alloc _ _⟩ <;> simp only [World.cell?, heap_alloc_last] <;> rfl
  have HA := Lib.hid hA
  clear hA
  go_enter Tryz.func39, Tryz.ntmps39
  go_wp2_with fail
  go_region_held (fun W => W.cell? ⟨w.heap.size, 0, none⟩ = some (.int .i64 4) ∧ W.cell? ⟨w.heap.size, 1, none⟩ = some (.string f) ∧ W.cell? ⟨w.heap.size, 2, none⟩ = some (.string k) ∧ W.cell? ⟨w.heap.size, 3, none⟩ = some (.int .i64 n) ∧ W.cell? ⟨w.heap.size, 4, none⟩ = some (.string t) ∧ W.cell? ⟨w.heap.size, 5, none⟩ = some (.int .i64 i) ∧ W.cell? ⟨w.heap.size, 6, none⟩ = some (.slice A l c) ∧ Below w.heap.size w W)
    (first
      | exact HA.out.drew
      | exact PredAt.keep (w := w) (b := w.heap.size) (op := 4) (n := n) (i := i) (f := f) (k := k) (t := t) (A := A) (l := l) (c := c) (by assumption) (by assumption))
    (first
      | (go_at_call 65; (with_reducible refine (isTest_any _ _ _ _ _ _ _ _ _ _).mono ?_); rintro e w' ⟨rfl, hbb⟩))
  rename_i hH
  have HH : Hid (PredAt w w.heap.size 4 n i f k t A l c _) := Lib.hid hH
  obtain ⟨g0, g1, g2, g3, g4, g5, g6, hB⟩ := hH
  have HB := Lib.hid hB
  clear hB HA
  have hT : isT 4 = false := rfl
  rw [hT]
  clear hT
  go_wp2_with (first
    | (go_at_call 41; (with_reducible refine (IsName_any _ (by assumption) _).mono ?_); rintro e w' ⟨rfl, rfl⟩)
    | (go_at_call 66; (with_reducible refine (CheckValue_any _ _ _ (by assumption) _).mono ?_); rintro e w' ⟨rfl, hbb⟩; obtain ⟨k0, k1, k2, k3, k4, k5, k6, hB2⟩ := HH.out.keep hbb; have HB2 := Lib.hid hB2; clear hB2 hbb))
  all_goals
    go_ret
    refine ⟨?_, ?_⟩
    · simp_all [nodeX, argsB]
    · first
        | exact HB2.out
        | exact HB.out
set_option maxHeartbeats 8000000 in
theorem node_b5 (n i : Int) (f k t : ByteArray) (A : Option Addr) (c : Nat) (l : Nat) (hl : ¬ l = 0) (hL : l ≤ 1000000) (hf : f.size ≤ 9223372036854775807) (hk : k.size ≤ 9223372036854775807) (ht : t.size ≤ 9223372036854775807) (w : World) :
    Calls Tryz.prog 39 #[.agg #[.int .i64 5, .string f, .string k, .int .i64 n, .string t, .int .i64 i, .slice A l c]] w fun e w' => e = .returned (.int .i64 (nodeX l 5 n i f k t)) ∧ Below w.heap.size w w' := by
  have hd : ((l : Int) == 0) = false := by rw [beq_eq_false_iff_ne]; omega
  have hA : PredAt w w.heap.size 5 n i f k t A l c (w.alloc (.cells #[.int .i64 5, .string f, .string k, .int .i64 n, .string t, .int .i64 i, .slice A l c] 34)) := by
    refine ⟨?_, ?_, ?_, ?_, ?_, ?_, ?_, below_alloc _ _⟩ <;> simp only [World.cell?, heap_alloc_last] <;> rfl
  have HA := Lib.hid hA
  clear hA
  go_enter Tryz.func39, Tryz.ntmps39
  go_wp2_with fail
  go_region_held (fun W => W.cell? ⟨w.heap.size, 0, none⟩ = some (.int .i64 5) ∧ W.cell? ⟨w.heap.size, 1, none⟩ = some (.string f) ∧ W.cell? ⟨w.heap.size, 2, none⟩ = some (.string k) ∧ W.cell? ⟨w.heap.size, 3, none⟩ = some (.int .i64 n) ∧ W.cell? ⟨w.heap.size, 4, none⟩ = some (.string t) ∧ W.cell? ⟨w.heap.size, 5, none⟩ = some (.int .i64 i) ∧ W.cell? ⟨w.heap.size, 6, none⟩ = some (.slice A l c) ∧ Below w.heap.size w W)
    (first
      | exact HA.out.drew
      | exact PredAt.keep (w := w) (b := w.heap.size) (op := 5) (n := n) (i := i) (f := f) (k := k) (t := t) (A := A) (l := l) (c := c) (by assumption) (by assumption))
    (first
      | (go_at_call 65; (with_reducible refine (isTest_any _ _ _ _ _ _ _ _ _ _).mono ?_); rintro e w' ⟨rfl, hbb⟩))
  rename_i hH
  have HH : Hid (PredAt w w.heap.size 5 n i f k t A l c _) := Lib.hid hH
  obtain ⟨g0, g1, g2, g3, g4, g5, g6, hB⟩ := hH
  have HB := Lib.hid hB
  clear hB HA
  have hT : isT 5 = true := rfl
  rw [hT]
  clear hT
  go_wp2_with (first
    | (go_at_call 41; (with_reducible refine (IsName_any _ (by assumption) _).mono ?_); rintro e w' ⟨rfl, rfl⟩)
    | (go_at_call 66; (with_reducible refine (CheckValue_any _ _ _ (by assumption) _).mono ?_); rintro e w' ⟨rfl, hbb⟩; obtain ⟨k0, k1, k2, k3, k4, k5, k6, hB2⟩ := HH.out.keep hbb; have HB2 := Lib.hid hB2; clear hB2 hbb))
  all_goals
    go_ret
    refine ⟨?_, ?_⟩
    · simp_all [nodeX, argsB]
    · first
        | exact HB2.out
        | exact HB.out
set_option maxHeartbeats 8000000 in
theorem node_b6 (n i : Int) (f k t : ByteArray) (A : Option Addr) (c : Nat) (l : Nat) (hl : ¬ l = 0) (hL : l ≤ 1000000) (hf : f.size ≤ 9223372036854775807) (hk : k.size ≤ 9223372036854775807) (ht : t.size ≤ 9223372036854775807) (w : World) :
    Calls Tryz.prog 39 #[.agg #[.int .i64 6, .string f, .string k, .int .i64 n, .string t, .int .i64 i, .slice A l c]] w fun e w' => e = .returned (.int .i64 (nodeX l 6 n i f k t)) ∧ Below w.heap.size w w' := by
  have hd : ((l : Int) == 0) = false := by rw [beq_eq_false_iff_ne]; omega
  have hA : PredAt w w.heap.size 6 n i f k t A l c (w.alloc (.cells #[.int .i64 6, .string f, .string k, .int .i64 n, .string t, .int .i64 i, .slice A l c] 34)) := by
    refine ⟨?_, ?_, ?_, ?_, ?_, ?_, ?_, below_alloc _ _⟩ <;> simp only [World.cell?, heap_alloc_last] <;> rfl
  have HA := Lib.hid hA
  clear hA
  go_enter Tryz.func39, Tryz.ntmps39
  go_wp2_with fail
  go_region_held (fun W => W.cell? ⟨w.heap.size, 0, none⟩ = some (.int .i64 6) ∧ W.cell? ⟨w.heap.size, 1, none⟩ = some (.string f) ∧ W.cell? ⟨w.heap.size, 2, none⟩ = some (.string k) ∧ W.cell? ⟨w.heap.size, 3, none⟩ = some (.int .i64 n) ∧ W.cell? ⟨w.heap.size, 4, none⟩ = some (.string t) ∧ W.cell? ⟨w.heap.size, 5, none⟩ = some (.int .i64 i) ∧ W.cell? ⟨w.heap.size, 6, none⟩ = some (.slice A l c) ∧ Below w.heap.size w W)
    (first
      | exact HA.out.drew
      | exact PredAt.keep (w := w) (b := w.heap.size) (op := 6) (n := n) (i := i) (f := f) (k := k) (t := t) (A := A) (l := l) (c := c) (by assumption) (by assumption))
    (first
      | (go_at_call 65; (with_reducible refine (isTest_any _ _ _ _ _ _ _ _ _ _).mono ?_); rintro e w' ⟨rfl, hbb⟩))
  rename_i hH
  have HH : Hid (PredAt w w.heap.size 6 n i f k t A l c _) := Lib.hid hH
  obtain ⟨g0, g1, g2, g3, g4, g5, g6, hB⟩ := hH
  have HB := Lib.hid hB
  clear hB HA
  have hT : isT 6 = true := rfl
  rw [hT]
  clear hT
  go_wp2_with (first
    | (go_at_call 41; (with_reducible refine (IsName_any _ (by assumption) _).mono ?_); rintro e w' ⟨rfl, rfl⟩)
    | (go_at_call 66; (with_reducible refine (CheckValue_any _ _ _ (by assumption) _).mono ?_); rintro e w' ⟨rfl, hbb⟩; obtain ⟨k0, k1, k2, k3, k4, k5, k6, hB2⟩ := HH.out.keep hbb; have HB2 := Lib.hid hB2; clear hB2 hbb))
  all_goals
    go_ret
    refine ⟨?_, ?_⟩
    · simp_all [nodeX, argsB]
    · first
        | exact HB2.out
        | exact HB.out
set_option maxHeartbeats 8000000 in
theorem node_b7 (n i : Int) (f k t : ByteArray) (A : Option Addr) (c : Nat) (l : Nat) (hl : ¬ l = 0) (hL : l ≤ 1000000) (hf : f.size ≤ 9223372036854775807) (hk : k.size ≤ 9223372036854775807) (ht : t.size ≤ 9223372036854775807) (w : World) :
    Calls Tryz.prog 39 #[.agg #[.int .i64 7, .string f, .string k, .int .i64 n, .string t, .int .i64 i, .slice A l c]] w fun e w' => e = .returned (.int .i64 (nodeX l 7 n i f k t)) ∧ Below w.heap.size w w' := by
  have hd : ((l : Int) == 0) = false := by rw [beq_eq_false_iff_ne]; omega
  have hA : PredAt w w.heap.size 7 n i f k t A l c (w.alloc (.cells #[.int .i64 7, .string f, .string k, .int .i64 n, .string t, .int .i64 i, .slice A l c] 34)) := by
    refine ⟨?_, ?_, ?_, ?_, ?_, ?_, ?_, below_alloc _ _⟩ <;> simp only [World.cell?, heap_alloc_last] <;> rfl
  have HA := Lib.hid hA
  clear hA
  go_enter Tryz.func39, Tryz.ntmps39
  go_wp2_with fail
  go_region_held (fun W => W.cell? ⟨w.heap.size, 0, none⟩ = some (.int .i64 7) ∧ W.cell? ⟨w.heap.size, 1, none⟩ = some (.string f) ∧ W.cell? ⟨w.heap.size, 2, none⟩ = some (.string k) ∧ W.cell? ⟨w.heap.size, 3, none⟩ = some (.int .i64 n) ∧ W.cell? ⟨w.heap.size, 4, none⟩ = some (.string t) ∧ W.cell? ⟨w.heap.size, 5, none⟩ = some (.int .i64 i) ∧ W.cell? ⟨w.heap.size, 6, none⟩ = some (.slice A l c) ∧ Below w.heap.size w W)
    (first
      | exact HA.out.drew
      | exact PredAt.keep (w := w) (b := w.heap.size) (op := 7) (n := n) (i := i) (f := f) (k := k) (t := t) (A := A) (l := l) (c := c) (by assumption) (by assumption))
    (first
      | (go_at_call 65; (with_reducible refine (isTest_any _ _ _ _ _ _ _ _ _ _).mono ?_); rintro e w' ⟨rfl, hbb⟩))
  rename_i hH
  have HH : Hid (PredAt w w.heap.size 7 n i f k t A l c _) := Lib.hid hH
  obtain ⟨g0, g1, g2, g3, g4, g5, g6, hB⟩ := hH
  have HB := Lib.hid hB
  clear hB HA
  have hT : isT 7 = true := rfl
  rw [hT]
  clear hT
  go_wp2_with (first
    | (go_at_call 41; (with_reducible refine (IsName_any _ (by assumption) _).mono ?_); rintro e w' ⟨rfl, rfl⟩)
    | (go_at_call 66; (with_reducible refine (CheckValue_any _ _ _ (by assumption) _).mono ?_); rintro e w' ⟨rfl, hbb⟩; obtain ⟨k0, k1, k2, k3, k4, k5, k6, hB2⟩ := HH.out.keep hbb; have HB2 := Lib.hid hB2; clear hB2 hbb))
  all_goals
    go_ret
    refine ⟨?_, ?_⟩
    · simp_all [nodeX, argsB]
    · first
        | exact HB2.out
        | exact HB.out
theorem node_other (op n i : Int) (f k t : ByteArray) (A : Option Addr) (l c : Nat) (h0 : ¬ op = 0) (h1 : ¬ op = 1) (h2 : ¬ op = 2) (h3 : ¬ op = 3) (h4 : ¬ op = 4) (h5 : ¬ op = 5) (h6 : ¬ op = 6) (h7 : ¬ op = 7) (w : World) :
    Calls Tryz.prog 39 #[.agg #[.int .i64 op, .string f, .string k, .int .i64 n, .string t, .int .i64 i, .slice A l c]] w fun e w' => e = .returned (.int .i64 (nodeX l op n i f k t)) ∧ Below w.heap.size w w' := by
  go_enter Tryz.func39, Tryz.ntmps39
  go_wp2
  all_goals
    go_ret
    refine ⟨?_, below_alloc _ _⟩
    simp_all [nodeX]
theorem node_any (op n i : Int) (f k t : ByteArray) (A : Option Addr) (l c : Nat) (hL : l ≤ 1000000) (hf : f.size ≤ 9223372036854775807) (hk : k.size ≤ 9223372036854775807) (ht : t.size ≤ 9223372036854775807) (w : World) :
    Calls Tryz.prog 39 #[.agg #[.int .i64 op, .string f, .string k, .int .i64 n, .string t, .int .i64 i, .slice A l c]] w fun e w' => e = .returned (.int .i64 (nodeX l op n i f k t)) ∧ Below w.heap.size w w' := by
  by_cases h0 : op = 0
  · subst h0
    by_cases hl : l = 0
    · subst hl; exact node_0 n i f k t A c hf hk ht w
    · exact node_b0 n i f k t A c l hl hL hf hk ht w
  by_cases h4 : op = 4
  · subst h4
    by_cases hl : l = 0
    · subst hl; exact node_4 n i f k t A c hf hk ht w
    · exact node_b4 n i f k t A c l hl hL hf hk ht w
  by_cases h5 : op = 5
  · subst h5
    by_cases hl : l = 0
    · subst hl; exact node_5 n i f k t A c hf hk ht w
    · exact node_b5 n i f k t A c l hl hL hf hk ht w
  by_cases h6 : op = 6
  · subst h6
    by_cases hl : l = 0
    · subst hl; exact node_6 n i f k t A c hf hk ht w
    · exact node_b6 n i f k t A c l hl hL hf hk ht w
  by_cases h7 : op = 7
  · subst h7
    by_cases hl : l = 0
    · subst hl; exact node_7 n i f k t A c hf hk ht w
    · exact node_b7 n i f k t A c l hl hL hf hk ht w
  by_cases h1 : op = 1
  · subst h1
    by_cases hl : l = 0
    · subst hl; exact node_b1 n i f k t A c hf hk ht w
    · exact node_1 n i f k t A c l (by omega) hL hf hk ht w
  by_cases h2 : op = 2
  · subst h2
    by_cases hl : l = 0
    · subst hl; exact node_b2 n i f k t A c hf hk ht w
    · exact node_2 n i f k t A c l (by omega) hL hf hk ht w
  by_cases h3 : op = 3
  · subst h3
    by_cases hl : l = 1
    · subst hl; exact node_3 n i f k t A c hf hk ht w
    · exact node_b3 n i f k t A c l hl hL hf hk ht w
  exact node_other op n i f k t A l c h0 h1 h2 h3 h4 h5 h6 h7 w
end Go.Proofs.YtnddlpfmagdbfaaGreatDoor
/- Contracts: the error of a predicate. -/
namespace Go.Proofs.YtnddlpfmagdbfaaGreatDoor
open Go Go.Proofs Go.RowKit
set_option linter.unusedVariables false
set_option linter.unusedSimpArgs false
def nodeP (p : PredD) : Int := nodeX p.args.length p.t.op p.t.kind p.t.num p.t.field p.t.key p.t.text
/-- The first error of a list of predicates, and how many nodes have been visited. -/
def visitsL (f : PredD → Nat → Int × Nat) : List PredD → Nat → Int × Nat
  | [], c => (0, c)
  | q :: l, c => if (f q c).1 ≠ 0 then f q c else visitsL f l (f q c).2
/-- The error of a predicate (of so many levels at most), and how many nodes have been visited. -/
def visitX : Nat → PredD → Int → Nat → Int × Nat
  | 0, _, _, c => (0, c)
  | n + 1, p, lv, c => if 64 ≤ c then (6, c) else if 16 < lv then (15, c) else if nodeP p ≠ 0 then (nodeP p, c + 1) else visitsL (fun q c => visitX n q (lv + 1) c) p.args (c + 1)
def PredStr : Nat → PredD → Prop
  | 0, _ => True
  | n + 1, p => (p.t.field.size ≤ 9223372036854775807 ∧ p.t.key.size ≤ 9223372036854775807) ∧ ∀ q, q ∈ p.args → PredStr n q
/-- All is as it was but for one block. -/
structure Vis (b : Nat) (w W : World) : Prop where
  os : W.os = w.os
  tape : W.tape = w.tape
  output : W.output = w.output
  size : w.heap.size ≤ W.heap.size
  block : ∀ k, k < w.heap.size → k ≠ b → W.heap[k]? = w.heap[k]?
theorem Vis.refl (b : Nat) (w : World) : Vis b w w := ⟨rfl, rfl, rfl, Nat.le_refl _, fun _ _ _ => rfl⟩
theorem Vis.trans {b : Nat} {a c d : World} (h : Vis b a c) (k : Vis b c d) : Vis b a d :=
  ⟨k.os.trans h.os, k.tape.trans h.tape, k.output.trans h.output, Nat.le_trans h.size k.size, fun i hi hb => (k.block i (Nat.lt_of_lt_of_le hi h.size) hb).trans (h.block i hi hb)⟩
theorem Vis.of {b : Nat} {w W : World} (h : Below w.heap.size w W) : Vis b w W := ⟨h.os, h.tape, h.output, h.size, fun k hk _ => h.block k hk⟩
theorem Vis.set (b i : Nat) (w : World) (v : Value) : Vis b w (w.setCell ⟨b, i, none⟩ v) :=
  let h := (Below.refl b w).setCell (p := ⟨b, i, none⟩) (Nat.le_refl _) v
  ⟨h.os, h.tape, h.output, h.size, fun k _ hb => heap_setCell_other _ _ _ _ hb⟩
theorem Vis.below {b B : Nat} {w0 w W : World} (h : Below B w0 w) (k : Vis b w W) (hB : B ≤ b) (hs : B ≤ w.heap.size) : Below B w0 W :=
  ⟨k.os.trans h.os, k.tape.trans h.tape, k.output.trans h.output, Nat.le_trans h.size k.size, fun i hi => (k.block i (by omega) (by omega)).trans (h.block i hi)⟩
theorem below_vis {b B : Nat} {w0 w W : World} (h : Below B w0 w) (k : Vis b w W) (hB : B ≤ b) (hs : B ≤ w.heap.size) : Below B w0 W := Vis.below h k hB hs
/-- The world behind the node's own check. -/
structure VisM (p : PredD) (c b1 b2 : Nat) (w W : World) : Prop where
  hb1 : W.heap[b1]? = some (.cells #[.int .i64 ((c : Int) + 1)] 3 (0, 0))
  box : W.heap[w.heap.size]? = some (.cells p.cells.toArray 34 (0, 0))
  vis : Vis b1 w W
  hb2 : W.cell? ⟨b2, 0, none⟩ = w.cell? ⟨b2, 0, none⟩
theorem VisM.mk' {p : PredD} {c b1 b2 : Nat} {w W : World} (h1 : w.heap[b1]? = some (.cells #[.int .i64 (c : Int)] 3 (0, 0))) (h2 : b2 < w.heap.size) (hne : b1 ≠ b2) (k : Below ((w.setCell ⟨b1, 0, none⟩ (.int .i64 ((c : Int) + 1))).alloc (.cells p.cells.toArray 34)).heap.size ((w.setCell ⟨b1, 0, none⟩ (.int .i64 ((c : Int) + 1))).alloc (.cells p.cells.toArray 34)) W) : VisM p c b1 b2 w W := by
  have hv : Vis b1 w W := (Vis.set b1 0 w _).trans ((Vis.of (b := b1) (Grew.alloc _ _).b).trans (Vis.of k))
  refine ⟨blk_keep k ((Grew.alloc _ _).blk (heap_setCell_same _ _ 0 _ _ _ h1)), blk_keep k ?_, hv, ?_⟩
  · have := blk_new (w.setCell ⟨b1, 0, none⟩ (.int .i64 ((c : Int) + 1))) p.cells.toArray 34
    simpa using this
  · unfold World.cell?
    rw [hv.block b2 h2 (Ne.symm hne)]
theorem Vis.cell {b : Nat} {w W : World} (h : Vis b w W) {a : Addr} (ha : a.block < w.heap.size) (hb : a.block ≠ b) : W.cell? a = w.cell? a := by
  unfold World.cell?
  rw [h.block _ ha hb]
theorem visitsL_step {f : PredD → Nat → Int × Nat} {L : List PredD} {j c : Nat} (hj : j < L.length) : visitsL f (L.drop j) c = if (f L[j] c).1 ≠ 0 then f L[j] c else visitsL f (L.drop (j + 1)) (f L[j] c).2 := by
  rw [List.drop_eq_getElem_cons hj]
  rfl
/-- The contract of the visit at predicates of n levels. -/
def VisitC (n : Nat) : Prop := ∀ (p : PredD) (lv : Int) (c b1 b2 : Nat) (w0 w : World), PredLie n w0 p → PredStr n p → 1 ≤ lv → lv ≤ 1000 → c ≤ 64 → w0.heap.size ≤ b1 → w0.heap.size ≤ b2 → b1 ≠ b2 → Below w0.heap.size w0 w →
  w.heap[b1]? = some (.cells #[.int .i64 c] 3 (0, 0)) → w.cell? ⟨b2, 0, none⟩ = some (.func (.func 38) #[] #[.pointer (some ⟨b1, 0, none⟩), .pointer (some ⟨b2, 0, none⟩)]) →
  Calls Tryz.prog 38 #[.agg p.cells.toArray, .int .i64 lv, .pointer (some ⟨b1, 0, none⟩), .pointer (some ⟨b2, 0, none⟩)] w fun e w' => e = .returned (.int .i64 (visitX n p lv c).1) ∧ (visitX n p lv c).2 ≤ 64 ∧ w'.heap[b1]? = some (.cells #[.int .i64 (visitX n p lv c).2] 3 (0, 0)) ∧ Vis b1 w w'
set_option maxHeartbeats 8000000 in
set_option maxRecDepth 20000 in
theorem visit_step (n : Nat) (ih : VisitC n) : VisitC (n + 1) := by
  intro p lv c b1 b2 w0 w hp hstr hl1 hl2 hc h1 h2 hne hB hb1 hb2
  have hlt1 := blk_lt hb1
  have hlt2 : b2 < w.heap.size := World.block_lt_of_cell? w _ hb2
  have e1 : (w.alloc (.cells p.cells.toArray 34)).cell? ⟨b1, 0, none⟩ = some (.int .i64 c) := cell_blk ((Grew.alloc _ _).blk hb1) 0 rfl
  have e2 : (w.alloc (.cells p.cells.toArray 34)).frozen? ⟨b1, 0, none⟩ = false := frozen_blk ((Grew.alloc _ _).blk hb1) _
  have hB1 := Lib.hid hb1
  clear hb1
  by_cases hc1 : 64 ≤ c
  · have hv : Hid (visitX (n + 1) p lv c = (6, c)) := Lib.hid (by rw [visitX, if_pos hc1])
    have hd : decide ((64 : Int) ≤ (c : Int)) = true := decide_eq_true (by omega)
    have hW := Lib.hid (Vis.of (b := b1) (Grew.alloc w (.cells p.cells.toArray 34)).b)
    have hbb := Lib.hid ((Grew.alloc w (.cells p.cells.toArray 34)).blk hB1.out)
    unfold PredD.cells at e1 e2 hW hbb ⊢
    go_enter Tryz.func38, Tryz.ntmps38
    go_wp2_with fail
    go_ret
    exact ⟨by rw [hv.out]; rfl, by rw [hv.out]; exact hc, by rw [hv.out]; exact hbb.out, hW.out⟩
  · have hd : decide ((64 : Int) ≤ (c : Int)) = false := decide_eq_false (by omega)
    by_cases hc2 : 16 < lv
    · have hv : Hid (visitX (n + 1) p lv c = (15, c)) := Lib.hid (by rw [visitX, if_neg hc1, if_pos hc2])
      have hd2 : decide ((16 : Int) < lv) = true := decide_eq_true hc2
      have hW := Lib.hid (Vis.of (b := b1) (Grew.alloc w (.cells p.cells.toArray 34)).b)
      have hbb := Lib.hid ((Grew.alloc w (.cells p.cells.toArray 34)).blk hB1.out)
      unfold PredD.cells at e1 e2 hW hbb ⊢
      go_enter Tryz.func38, Tryz.ntmps38
      go_wp2_with fail
      go_ret
      exact ⟨by rw [hv.out]; rfl, by rw [hv.out]; exact hc, by rw [hv.out]; exact hbb.out, hW.out⟩
    · have hd2 : decide ((16 : Int) < lv) = false := decide_eq_false hc2
      have hnode := Lib.hid (fun W => node_any p.t.op p.t.kind p.t.num p.t.field p.t.key p.t.text p.A p.args.length p.c hp.1.2.1 hstr.1.1 hstr.1.2 hp.1.2.2 W)
      have hv : Hid (visitX (n + 1) p lv c = if nodeP p ≠ 0 then (nodeP p, c + 1) else visitsL (fun q c => visitX n q (lv + 1) c) p.args (c + 1)) := Lib.hid (by rw [visitX, if_neg hc1, if_neg hc2])
      have hadd : IntKind.i64.wrap ((c : Int) + 1) = ((c + 1 : Nat) : Int) := by rw [IntWalk.i64_in _ (by omega)]; simp
      unfold nodeP at hv
      generalize nodeX p.args.length p.t.op p.t.kind p.t.num p.t.field p.t.key p.t.text = e at *
      unfold PredD.cells at e1 e2 ⊢
      have hmid := Lib.hid (fun W (k : Below ((w.setCell ⟨b1, 0, none⟩ (.int .i64 ((c : Int) + 1))).alloc (.cells p.cells.toArray 34)).heap.size _ W) => VisM.mk' (b2 := b2) hB1.out hlt2 hne k)
      have HP := Lib.hid hp
      have HStr := Lib.hid hstr
      have HB := Lib.hid hB
      have HB2 := Lib.hid hb2
      have hlen := hp.1.2.1
      have hws := hB.size
      clear hp hstr hB hb2
      unfold PredD.cells at hmid
      generalize hAA : p.A = A' at *
      have hAA := Lib.hid hAA
      by_cases he : e = 0
      · have he2 : (e != 0) = false := by rw [he]; rfl
        rw [if_neg (by simpa using he)] at hv
        clear he
        go_enter Tryz.func38, Tryz.ntmps38
        go_wp2_with (first
          | (go_at_call 39; (with_reducible refine (hnode.out _).mono ?_); rintro e' w3 ⟨rfl, hk⟩; have hM := Lib.hid (hmid.out w3 hk); have g6 : w3.cell? ⟨w.heap.size, 6, none⟩ = some (.slice A' p.args.length p.c) := (by rw [← hAA.out]; exact cell_blk hM.out.box 6 rfl); clear hk))
        go_loopw [9, 10, 27] (fun a b i wr => ∃ j cj : Nat, j ≤ p.args.length ∧ cj ≤ 64 ∧ i = .int .i64 j ∧ Hid (visitX (n + 1) p lv c = visitsL (fun q c => visitX n q (lv + 1) c) (p.args.drop j) cj) ∧ Hid (wr.heap[b1]? = some (.cells #[.int .i64 cj] 3 (0, 0))) ∧ Hid (Vis b1 w wr)) (fun _ _ i _ => p.args.length - (intOf i).toNat)
        case atStart => exact ⟨0, c + 1, by omega, by omega, rfl, Lib.hid hv.out, Lib.hid (by have := hM.out.hb1; simpa using this), Lib.hid hM.out.vis⟩
        case round =>
          obtain ⟨j, cj, hj, hcj, rfl, hG, hb1r, hW⟩ := hrel
          by_cases hlt : j < p.args.length
          · have hlt3 : decide (j < p.args.length) = true := decide_eq_true hlt
            obtain ⟨ad, hA, hq⟩ := (HP.out.1.1.below (below_vis HB.out hW.out h1 hws)) j hlt
            rw [hAA.out] at hA
            subst hA
            clear hAA
            have hmem := List.getElem_mem hlt
            have hBr := below_vis HB.out hW.out h1 hws
            have hBq := (hBr.alloc hBr.size (.cells p.args[j].cells.toArray 34))
            have hb1q := (Grew.alloc wr (.cells p.args[j].cells.toArray 34)).blk hb1r.out
            have hb2q : (wr.alloc (.cells p.args[j].cells.toArray 34)).cell? ⟨b2, 0, none⟩ = some (.func (.func 38) #[] #[.pointer (some ⟨b1, 0, none⟩), .pointer (some ⟨b2, 0, none⟩)]) := (Grew.alloc _ _).cell ((hW.out.cell (a := ⟨b2, 0, none⟩) hlt2 (Ne.symm hne)).trans HB2.out)
            have hih := Lib.hid (ih p.args[j] (lv + 1) cj b1 b2 w0 _ (HP.out.2 _ hmem) (HStr.out.2 _ hmem) (by omega) (by omega) hcj h1 h2 hne hBq hb1q hb2q)
            have hst := Lib.hid (visitsL_step (f := fun q c => visitX n q (lv + 1) c) (c := cj) hlt)
            have hWq := Lib.hid (hW.out.trans (Vis.of (b := b1) (Grew.alloc wr (.cells p.args[j].cells.toArray 34)).b))
            have hadd2 : IntKind.i64.wrap (lv + 1) = lv + 1 := IntWalk.i64_in _ (by omega)
            clear hBr hBq hb1q hmem
            generalize p.args[j] = q at *
            obtain ⟨g0, g1, g2, g3, g4, g5, g6'⟩ := hq
            generalize visitX n q (lv + 1) cj = r at *
            obtain ⟨r1, r2⟩ := r
            unfold PredD.cells at hih hb2q hWq
            by_cases hr : r1 = 0
            · have hr2 : (r1 != 0) = false := by rw [hr]; rfl
              have hG2 : Hid (visitX (n + 1) p lv c = visitsL (fun q c => visitX n q (lv + 1) c) (p.args.drop (j + 1)) r2) := Lib.hid (by rw [hG.out, hst.out, if_neg (by simpa using hr)])
              clear hr hst
              go_wp2_with (first
                | (go_at_call 38; (with_reducible refine hih.out.mono ?_); rintro e' w4 ⟨rfl, hk1, hk2, hk3⟩; have hk1 := Lib.hid hk1; have hk2 := Lib.hid hk2; have hk3 := Lib.hid hk3))
              exact ⟨⟨j + 1, r2, by omega, hk1.out, by go_num, hG2, hk2, Lib.hid (hWq.out.trans hk3.out)⟩, by simp [intOf]; omega⟩
            · have hr2 : (r1 != 0) = true := by rw [bne_iff_ne]; exact hr
              have hG2 : Hid (visitX (n + 1) p lv c = (r1, r2)) := Lib.hid (by rw [hG.out, hst.out, if_pos (by simpa using hr)])
              clear hr hst
              go_wp2_with (first
                | (go_at_call 38; (with_reducible refine hih.out.mono ?_); rintro e' w4 ⟨rfl, hk1, hk2, hk3⟩; have hk1 := Lib.hid hk1; have hk2 := Lib.hid hk2; have hk3 := Lib.hid hk3))
              go_ret
              exact ⟨by rw [hG2.out]; rfl, by rw [hG2.out]; exact hk1.out, by rw [hG2.out]; exact hk2.out, hWq.out.trans hk3.out⟩
          · have hj2 : j = p.args.length := by omega
            subst hj2
            have hlt3 : decide (p.args.length < p.args.length) = false := decide_eq_false hlt
            have hG2 : Hid (visitX (n + 1) p lv c = (0, cj)) := Lib.hid (by rw [hG.out, List.drop_length]; rfl)
            go_wp2_with fail
            go_ret
            exact ⟨by rw [hG2.out]; rfl, by rw [hG2.out]; exact hcj, by rw [hG2.out]; exact hb1r.out, hW.out⟩
      · have he2 : (e != 0) = true := by rw [bne_iff_ne]; exact he
        rw [if_pos (by simpa using he)] at hv
        clear he
        go_enter Tryz.func38, Tryz.ntmps38
        go_wp2_with (first
          | (go_at_call 39; (with_reducible refine (hnode.out _).mono ?_); rintro e' w3 ⟨rfl, hk⟩; have hM := Lib.hid (hmid.out w3 hk); have g6 : w3.cell? ⟨w.heap.size, 6, none⟩ = some (.slice A' p.args.length p.c) := (by rw [← hAA.out]; exact cell_blk hM.out.box 6 rfl); clear hk))
        go_ret
        exact ⟨by rw [hv.out]; rfl, by rw [hv.out]; show c + 1 ≤ 64; omega, by rw [hv.out]; have := hM.out.hb1; simpa using this, hM.out.vis⟩
theorem visit_any : ∀ n, VisitC n
  | 0 => fun p lv c b1 b2 w0 w hp => False.elim hp
  | n + 1 => visit_step n (visit_any n)
/-- The error of a predicate. -/
def predErr (n : Nat) (p : PredD) : Int := (visitX n p 1 0).1
set_option maxHeartbeats 4000000 in
theorem predCheck_any (n : Nat) (p : PredD) (w : World) (hp : PredLie n w p) (hstr : PredStr n p) :
    Calls Tryz.prog 25 #[.agg p.cells.toArray] w fun e w' => e = .returned (.int .i64 (predErr n p)) ∧ Below w.heap.size w w' := by
  have hc := Lib.hid (fun W h3 h4 h5 => visit_any n p 1 0 (w.heap.size + 1) (w.heap.size + 1 + 1) w W hp hstr (by decide) (by decide) (by decide) (by omega) (by omega) (by omega) h3 h4 h5)
  clear hp hstr
  unfold predErr
  generalize visitX n p 1 0 = r at *
  unfold PredD.cells at hc ⊢
  go_enter Tryz.func25, Tryz.ntmps25
  go_wp2_with (first
    | (go_at_call 38; (with_reducible refine (hc.out _ ?_ ?_ ?_).mono ?_)))
  · exact (((Below.refl _ w).alloc (Nat.le_refl _) _).alloc (by simp) _).alloc (by simp; omega) _
  · exact (Grew.alloc _ _).blk (blk_new' _ _ _ _ (by simp))
  · exact cell_new _ _ _ _ _ _ (by simp) rfl
  · rintro e w' ⟨rfl, h1, h2, h3⟩
    have hb := Lib.hid (below_vis ((((Below.refl _ w).alloc (Nat.le_refl _) _).alloc (by simp) _).alloc (by simp; omega) _) h3 (by omega) (by simp; omega))
    clear h2 h3
    go_wp2_with fail
    go_ret
    exact ⟨rfl, hb.out⟩
theorem visitsL_zero {f : PredD → Nat → Int × Nat} : ∀ {L : List PredD} {c : Nat}, (visitsL f L c).1 = 0 → ∀ q ∈ L, ∃ c', (f q c').1 = 0
  | [], _, _, q, hq => by cases hq
  | x :: l, c, h, q, hq => by
    unfold visitsL at h
    split at h
    · contradiction
    · rename_i h1
      rcases List.mem_cons.1 hq with rfl | hq
      · exact ⟨c, by simpa using h1⟩
      · exact visitsL_zero h q hq
/-- A predicate in order has one argument at least where it is a negation. -/
theorem visit_ok : ∀ {n : Nat} {W : World} {p : PredD} {lv : Int} {c : Nat}, PredLie n W p → (visitX n p lv c).1 = 0 → PredOK n W p
  | 0, _, _, _, _, h, _ => h
  | n + 1, W, p, lv, c, h, k => by
    unfold visitX at k
    split at k
    · cases k
    · split at k
      · cases k
      · split at k
        · rename_i h1
          exact absurd k h1
        · rename_i h1
          refine ⟨⟨h.1.1, h.1.2.1, h.1.2.2, fun h3 => ?_⟩, fun q hq => ?_⟩
          · simp only [ne_eq, Decidable.not_not] at h1
            unfold nodeP nodeX at h1
            rw [h3, if_pos (by decide)] at h1
            split at h1
            · cases h1
            · rename_i h2
              have h4 : argsB 3 p.args.length = decide (p.args.length = 1) := rfl
              rw [h4] at h2
              have : p.args.length = 1 := by simpa using h2
              omega
          · obtain ⟨c', hc⟩ := visitsL_zero k q hq
            exact visit_ok (h.2 q hq) hc
theorem predErr_ok {n : Nat} {W : World} {p : PredD} (h : PredLie n W p) (k : predErr n p = 0) : PredOK n W p := visit_ok h k
end Go.Proofs.YtnddlpfmagdbfaaGreatDoor
/- Contract: the error of a policy. -/
namespace Go.Proofs.YtnddlpfmagdbfaaGreatDoor
open Go Go.Proofs Go.RowKit
set_option linter.unusedVariables false
set_option linter.unusedSimpArgs false
def ruleErr (n : Nat) (q : RuleD) : Int := if predErr n q.p ≠ 0 then predErr n q.p else if q.e < 0 ∨ 10 < q.e then 2 else 0
/-- The first error of a list. -/
def firstErr {α : Type} (f : α → Int) : List α → Int
  | [] => 0
  | q :: l => if f q ≠ 0 then f q else firstErr f l
theorem firstErr_at {α : Type} (f : α → Int) : ∀ (L : List α) (j : Nat) (hj : j < L.length), f L[j] ≠ 0 → (∀ m (hm : m < j), f (L[m]'(by omega)) = 0) → firstErr f L = f L[j]
  | q :: l, 0, _, h, _ => by unfold firstErr; exact if_pos h
  | q :: l, j + 1, hj, h, k => by
    unfold firstErr
    have h0 : f q = 0 := k 0 (by omega)
    rw [if_neg (by rw [h0]; simp)]
    exact firstErr_at f l j (by simpa using hj) h (fun m hm => k (m + 1) (by omega))
theorem firstErr_none {α : Type} (f : α → Int) : ∀ (L : List α), (∀ m (hm : m < L.length), f L[m] = 0) → firstErr f L = 0
  | [], _ => rfl
  | q :: l, k => by
    unfold firstErr
    have h0 : f q = 0 := k 0 (by simp)
    rw [if_neg (by rw [h0]; simp)]
    exact firstErr_none f l (fun m hm => k (m + 1) (by simpa using hm))
/-- The error of a policy. -/
def polErr (n : Nat) (p : PolD) : Int := if 16 < p.rules.length then 6 else if firstErr (ruleErr n) p.rules ≠ 0 then firstErr (ruleErr n) p.rules else if p.d < 0 ∨ 10 < p.d then 2 else 0
theorem rule_cells {W : World} {a : Option Addr} {L : List RuleD} (h : RulesAt W a L) {j : Nat} (hj : j < L.length) : ∃ b o, a = some ⟨b, o, none⟩ ∧ ∀ k v, L[j].cells[k]? = some v → W.cell? ⟨b, o + j * 8 + k, none⟩ = some v := by
  obtain ⟨b, o, h1, h2, h3⟩ := rules_pred h hj
  refine ⟨b, o, h1, fun k v hv => ?_⟩
  unfold RuleD.cells at hv
  match k, hv with
  | 0, hv => exact h2 0 v hv
  | 1, hv => exact h2 1 v hv
  | 2, hv => exact h2 2 v hv
  | 3, hv => exact h2 3 v hv
  | 4, hv => exact h2 4 v hv
  | 5, hv => exact h2 5 v hv
  | 6, hv => exact h2 6 v hv
  | 7, hv => cases hv; exact h3
set_option maxHeartbeats 8000000 in
set_option maxRecDepth 20000 in
theorem polCheck_any (n : Nat) (p : PolD) (w : World) (hp : p.Lies n w) (hstr : ∀ q ∈ p.rules, PredStr n q.p) :
    Calls Tryz.prog 14 #[.agg p.cells.toArray] w fun e w' => e = .returned (.int .i64 (polErr n p)) ∧ Below w.heap.size w w' := by
  have hBx := Lib.hid ((Below.refl _ w).alloc (Nat.le_refl _) (.cells p.cells.toArray 24))
  have hPB := Lib.hid (blk_new w p.cells.toArray 24)
  have HP := Lib.hid hp
  have HS := Lib.hid hstr
  have hlen := hp.len
  clear hp hstr
  obtain ⟨A, c, rules, d⟩ := p
  unfold PolD.cells at hBx hPB ⊢
  simp only at hlen hBx hPB ⊢
  by_cases h16 : 16 < rules.length
  · have hd : decide ((16 : Int) < (rules.length : Int)) = true := decide_eq_true (by omega)
    have hv : Hid (polErr n ⟨A, c, rules, d⟩ = 6) := Lib.hid (by unfold polErr; exact if_pos h16)
    go_enter Tryz.func14, Tryz.ntmps14
    go_wp2_with fail
    go_ret
    exact ⟨by rw [hv.out]; rfl, hBx.out⟩
  · have hd : decide ((16 : Int) < (rules.length : Int)) = false := decide_eq_false (by omega)
    have hv : Hid (polErr n ⟨A, c, rules, d⟩ = if firstErr (ruleErr n) rules ≠ 0 then firstErr (ruleErr n) rules else if d < 0 ∨ 10 < d then 2 else 0) := Lib.hid (by unfold polErr; exact if_neg h16)
    go_enter Tryz.func14, Tryz.ntmps14
    go_wp2_with fail
    go_loopw [4, 5, 13] (fun a b i wr => ∃ j : Nat, j ≤ rules.length ∧ i = .int .i64 j ∧ Hid (∀ m (hm : m < j) (h : m < rules.length), ruleErr n rules[m] = 0) ∧ Hid (Below (w.alloc (.cells #[.slice A rules.length c, .int .i64 d] 24)).heap.size (w.alloc (.cells #[.slice A rules.length c, .int .i64 d] 24)) wr)) (fun _ _ i _ => rules.length - (intOf i).toNat)
    case atStart => exact ⟨0, by omega, rfl, Lib.hid (fun m hm => by omega), Lib.hid (Below.refl _ _)⟩
    case round =>
      obtain ⟨j, hj, rfl, hG, hK⟩ := hrel
      have hK2 := Lib.hid (hBx.out.trans (hK.out.mono hBx.out.size))
      by_cases hlt : j < rules.length
      · have hlt2 : decide (j < rules.length) = true := decide_eq_true hlt
        obtain ⟨b, o, hA, hcs⟩ := rule_cells (HP.out.below hK2.out).at_ hlt
        have hmem := List.getElem_mem hlt
        have hck := Lib.hid (fun W h => predCheck_any n rules[j].p W ((HP.out.ok _ hmem).below h) (HS.out _ hmem))
        have hstep := Lib.hid (fun (h : ruleErr n rules[j] = 0) m (hm : m < j + 1) (h' : m < rules.length) => (by
          by_cases e : m = j
          · subst e; exact h
          · exact hG.out m (by omega) h' : ruleErr n rules[m] = 0))
        have hfin : Hid (ruleErr n rules[j] ≠ 0 → polErr n ⟨A, c, rules, d⟩ = ruleErr n rules[j]) := Lib.hid (fun h => by
          have h1 := firstErr_at (ruleErr n) rules j hlt h (fun m hm => hG.out m hm (by omega))
          rw [hv.out, h1, if_pos h])
        subst hA
        generalize rules[j] = q at *
        have f0 : wr.cell? ⟨b, o + j * 8, none⟩ = some (.int .i64 q.p.t.op) := hcs 0 _ rfl
        have f1 : wr.cell? ⟨b, o + j * 8 + 1, none⟩ = some (.string q.p.t.field) := hcs 1 _ rfl
        have f2 : wr.cell? ⟨b, o + j * 8 + 2, none⟩ = some (.string q.p.t.key) := hcs 2 _ rfl
        have f3 : wr.cell? ⟨b, o + j * 8 + 3, none⟩ = some (.int .i64 q.p.t.kind) := hcs 3 _ rfl
        have f4 : wr.cell? ⟨b, o + j * 8 + 4, none⟩ = some (.string q.p.t.text) := hcs 4 _ rfl
        have f5 : wr.cell? ⟨b, o + j * 8 + 5, none⟩ = some (.int .i64 q.p.t.num) := hcs 5 _ rfl
        have f6 : wr.cell? ⟨b, o + j * 8 + 6, none⟩ = some (.slice q.p.A q.p.args.length q.p.c) := hcs 6 _ rfl
        have f7 : wr.cell? ⟨b, o + j * 8 + 7, none⟩ = some (.int .i64 q.e) := hcs 7 _ rfl
        clear hcs hmem
        have hck := Lib.hid (hck.out (wr.alloc (.cells q.cells.toArray 36)) (hK2.out.alloc hK2.out.size _))
        have hRB := Lib.hid (blk_new wr q.cells.toArray 36)
        have hgr := Lib.hid (Grew.alloc wr (.cells q.cells.toArray 36)).b
        unfold RuleD.cells at hck hRB hgr
        unfold PredD.cells at hck
        have hre : Hid (ruleErr n q = if predErr n q.p ≠ 0 then predErr n q.p else if q.e < 0 ∨ 10 < q.e then 2 else 0) := Lib.hid rfl
        generalize predErr n q.p = e at *
        by_cases he : e = 0
        · have he2 : (e != 0) = false := by rw [he]; rfl
          rw [if_neg (by simpa using he)] at hre
          clear he
          by_cases h0 : q.e < 0
          · have h0' : decide (q.e < 0) = true := decide_eq_true h0
            have hz : Hid (polErr n ⟨some ⟨b, o, none⟩, c, rules, d⟩ = 2) := Lib.hid (by rw [hfin.out (by rw [hre.out, if_pos (.inl h0)]; decide), hre.out, if_pos (.inl h0)])
            go_wp2_with (first
            | (go_at_call 25; (with_reducible refine hck.out.mono ?_); rintro e' w3 ⟨rfl, hk⟩; have hR3 := blk_keep hk hRB.out; have y7 : w3.cell? ⟨wr.heap.size, 7, none⟩ = some (.int .i64 q.e) := cell_blk hR3 7 rfl; have hk3 := Lib.hid (hK.out.trans ((hgr.out.trans (hk.mono hgr.out.size)).mono hK.out.size)); clear hR3 hk))
            go_ret
            exact ⟨by rw [hz.out]; rfl, hBx.out.trans (hk3.out.mono hBx.out.size)⟩
          · have h0' : decide (q.e < 0) = false := decide_eq_false h0
            by_cases h10 : 10 < q.e
            · have h10' : decide (10 < q.e) = true := decide_eq_true h10
              have hz : Hid (polErr n ⟨some ⟨b, o, none⟩, c, rules, d⟩ = 2) := Lib.hid (by rw [hfin.out (by rw [hre.out, if_pos (.inr h10)]; decide), hre.out, if_pos (.inr h10)])
              go_wp2_with (first
            | (go_at_call 25; (with_reducible refine hck.out.mono ?_); rintro e' w3 ⟨rfl, hk⟩; have hR3 := blk_keep hk hRB.out; have y7 : w3.cell? ⟨wr.heap.size, 7, none⟩ = some (.int .i64 q.e) := cell_blk hR3 7 rfl; have hk3 := Lib.hid (hK.out.trans ((hgr.out.trans (hk.mono hgr.out.size)).mono hK.out.size)); clear hR3 hk))
              go_ret
              exact ⟨by rw [hz.out]; rfl, hBx.out.trans (hk3.out.mono hBx.out.size)⟩
            · have h10' : decide (10 < q.e) = false := decide_eq_false h10
              have hz := Lib.hid (hstep.out (by rw [hre.out, if_neg (by omega)]))
              go_wp2_with (first
            | (go_at_call 25; (with_reducible refine hck.out.mono ?_); rintro e' w3 ⟨rfl, hk⟩; have hR3 := blk_keep hk hRB.out; have y7 : w3.cell? ⟨wr.heap.size, 7, none⟩ = some (.int .i64 q.e) := cell_blk hR3 7 rfl; have hk3 := Lib.hid (hK.out.trans ((hgr.out.trans (hk.mono hgr.out.size)).mono hK.out.size)); clear hR3 hk))
              exact ⟨⟨j + 1, by omega, by go_num, hz, hk3⟩, by simp [intOf]; omega⟩
        · have he2 : (e != 0) = true := by rw [bne_iff_ne]; exact he
          rw [if_pos (by simpa using he)] at hre
          have hz : Hid (polErr n ⟨some ⟨b, o, none⟩, c, rules, d⟩ = e) := Lib.hid (by rw [hfin.out (by rw [hre.out]; exact he), hre.out])
          clear he
          go_wp2_with (first
            | (go_at_call 25; (with_reducible refine hck.out.mono ?_); rintro e' w3 ⟨rfl, hk⟩; have hR3 := blk_keep hk hRB.out; have y7 : w3.cell? ⟨wr.heap.size, 7, none⟩ = some (.int .i64 q.e) := cell_blk hR3 7 rfl; have hk3 := Lib.hid (hK.out.trans ((hgr.out.trans (hk.mono hgr.out.size)).mono hK.out.size)); clear hR3 hk))
          go_ret
          exact ⟨by rw [hz.out]; rfl, hBx.out.trans (hk3.out.mono hBx.out.size)⟩
      · have hj2 : j = rules.length := by omega
        subst hj2
        have hlt2 : decide (rules.length < rules.length) = false := decide_eq_false hlt
        have hn0 : firstErr (ruleErr n) rules = 0 := firstErr_none _ _ (fun m hm => hG.out m hm hm)
        rw [hn0] at hv
        have hP3 := blk_keep hK.out hPB.out
        have y1 : wr.cell? ⟨w.heap.size, 1, none⟩ = some (.int .i64 d) := cell_blk hP3 1 rfl
        clear hP3 hn0
        by_cases h0 : d < 0
        · have h0' : decide (d < 0) = true := decide_eq_true h0
          have hz : Hid (polErr n ⟨A, c, rules, d⟩ = 2) := Lib.hid (by rw [hv.out, if_neg (by decide), if_pos (.inl h0)])
          go_wp2_with fail
          go_ret
          exact ⟨by rw [hz.out]; rfl, hK2.out⟩
        · have h0' : decide (d < 0) = false := decide_eq_false h0
          by_cases h10 : 10 < d
          · have h10' : decide (10 < d) = true := decide_eq_true h10
            have hz : Hid (polErr n ⟨A, c, rules, d⟩ = 2) := Lib.hid (by rw [hv.out, if_neg (by decide), if_pos (.inr h10)])
            go_wp2_with fail
            go_ret
            exact ⟨by rw [hz.out]; rfl, hK2.out⟩
          · have h10' : decide (10 < d) = false := decide_eq_false h10
            have hz : Hid (polErr n ⟨A, c, rules, d⟩ = 0) := Lib.hid (by rw [hv.out, if_neg (by decide), if_neg (by omega)])
            go_wp2_with fail
            go_ret
            exact ⟨by rw [hz.out]; rfl, hK2.out⟩
theorem firstErr_zero {α : Type} {f : α → Int} : ∀ {L : List α}, firstErr f L = 0 → ∀ x ∈ L, f x = 0
  | [], _, x, hx => by cases hx
  | y :: l, h, x, hx => by
    unfold firstErr at h
    split at h
    · contradiction
    · rename_i h1
      rcases List.mem_cons.1 hx with rfl | hx
      · simpa using h1
      · exact firstErr_zero h x hx
theorem polErr_rules {n : Nat} {p : PolD} (h : polErr n p = 0) : (∀ q ∈ p.rules, predErr n q.p = 0 ∧ 0 ≤ q.e ∧ q.e ≤ 10) ∧ 0 ≤ p.d ∧ p.d ≤ 10 := by
  unfold polErr at h
  split at h
  · cases h
  · split at h
    · contradiction
    · rename_i h1
      split at h
      · cases h
      · rename_i h2
        simp only [ne_eq, Decidable.not_not] at h1
        refine ⟨fun q hq => ?_, by omega⟩
        have h3 := firstErr_zero h1 q hq
        unfold ruleErr at h3
        split at h3
        · contradiction
        · rename_i h4
          split at h3
          · cases h3
          · exact ⟨by simpa using h4, by omega⟩
theorem PolD.Lies.held_ok {n : Nat} {w : World} {p : PolD} (h : p.Lies n w) (k : polErr n p = 0) : p.Held n w := ⟨h.at_, h.len, fun q hq => predErr_ok (h.ok q hq) ((polErr_rules k).1 q hq).1⟩
end Go.Proofs.YtnddlpfmagdbfaaGreatDoor
/- Contracts: the error of a span's links. -/
namespace Go.Proofs.YtnddlpfmagdbfaaGreatDoor
open Go Go.Proofs Go.RowKit
set_option linter.unusedVariables false
set_option linter.unusedSimpArgs false
theorem orE_any (a : Option Addr) (L : List Int) (n c : Nat) (w : World) (hn : n = L.length) (h : IntsIn w a L) (hl : L.length ≤ 1000) :
    Calls Tryz.prog 42 #[.slice a n c] w fun e w' => e = .returned (.int .i64 (orI L)) ∧ w' = w := by
  subst hn
  have HR := Lib.hid h
  clear h
  go_enter Tryz.func42, Tryz.ntmps42
  go_wp2
  go_loopw [5, 8] (fun t i wr => ∃ j : Nat, j ≤ L.length ∧ i = .int .i64 j ∧ Hid (orI (L.drop j) = orI L) ∧ wr = w) (fun _ i _ => L.length - (intOf i).toNat)
  case atStart => exact ⟨0, by omega, rfl, Lib.hid rfl, rfl⟩
  case round =>
    obtain ⟨j, hj, rfl, hG, rfl⟩ := hrel
    by_cases hlt : j < L.length
    · obtain ⟨ad, rfl, hc⟩ := HR.out j hlt
      have hd := Lib.hid (orI_drop hlt)
      generalize L[j] = x at *
      by_cases hx : x = 0
      · subst hx
        have hn : Hid (orI (L.drop (j + 1)) = orI L) := Lib.hid (by rw [← hG.out, hd.out]; rfl)
        go_wp2
        exact ⟨⟨j + 1, by omega, by go_num, hn, trivial⟩, by simp [intOf]; omega⟩
      · have hn : Hid (x = orI L) := Lib.hid (by rw [← hG.out, hd.out, if_pos hx])
        have hb : (x != 0) = true := by simpa using hx
        clear hx
        go_wp2
        go_ret
        exact ⟨by rw [← hn.out]; rfl, rfl⟩
    · obtain rfl : j = L.length := by omega
      have hn : Hid (0 = orI L) := Lib.hid (by rw [← hG.out, List.drop_length]; rfl)
      go_wp2
      go_ret
      exact ⟨by rw [← hn.out]; rfl, rfl⟩
def badX (n : Int) : Bool := decide (n < 1) || decide (1099511627776 < n)
theorem badId_any (n : Int) (w : World) : Calls Tryz.prog 40 #[.int .i64 n] w fun e w' => e = .returned (.bool (badX n)) ∧ w' = w := by
  unfold badX
  by_cases h0 : n < 1
  · have h0' : decide (n < 1) = true := decide_eq_true h0
    rw [h0']
    go_enter Tryz.func40, Tryz.ntmps40
    go_wp2_with fail
    go_ret
    exact ⟨rfl, rfl⟩
  · have h0' : decide (n < 1) = false := decide_eq_false h0
    rw [h0']
    go_enter Tryz.func40, Tryz.ntmps40
    go_wp2_with fail
    go_ret
    exact ⟨by simp, rfl⟩
/-- The error of a link behind another one. -/
def linkErr (prev : Option RefD) (x : RefD) : Int :=
  if badX x.trace = true ∨ badX x.id = true then 2 else match prev with | none => 0 | some y => if 0 ≤ cmpR y x then 8 else 0
def linksFrom : Option RefD → List RefD → Int
  | _, [] => 0
  | p, x :: l => if linkErr p x ≠ 0 then linkErr p x else linksFrom (some x) l
def linksErr (L : List RefD) : Int := if 16 < L.length then 6 else linksFrom none L
theorem linksFrom_drop {L : List RefD} {p : Option RefD} {j : Nat} (h : j < L.length) : linksFrom p (L.drop j) = if linkErr p L[j] ≠ 0 then linkErr p L[j] else linksFrom (some L[j]) (L.drop (j + 1)) := by
  rw [List.drop_eq_getElem_cons h]; rfl
def prevOf {α : Type} (L : List α) : Nat → Option α
  | 0 => none
  | j + 1 => L[j]?
theorem refs_cells {W : World} {a : Option Addr} {L : List RefD} (h : RefsAt W a L) {j : Nat} (hj : j < L.length) : ∃ b o, a = some ⟨b, o, none⟩ ∧ W.rangeAt b (o + j * 2) L[j].cells := by
  obtain ⟨⟨b, o, g⟩, h1, h2, h3⟩ := h j hj
  cases g with
  | none =>
    rw [Addr.add_mid] at h2 h3
    refine ⟨b, o, h1, fun k v hv => ?_⟩
    unfold RefD.cells at hv
    match k, hv with
    | 0, hv => cases hv; exact h2
    | 1, hv => cases hv; exact h3
  | some g =>
    exfalso
    obtain ⟨ad, k1, k2, _⟩ := h 0 (by omega)
    obtain rfl : (⟨b, o, some g⟩ : Addr) = ad := Option.some.inj (h1.symm.trans k1)
    unfold World.cell? Addr.add at k2
    revert k2
    simp
    split <;> simp
theorem rowR : ∃ d, Tryz.prog.underlying 113 = some d ∧ d.isRow = true := ⟨_, Tryz.underlying113, rfl⟩
set_option maxHeartbeats 8000000 in
set_option maxRecDepth 20000 in
theorem links_any (a : Option Addr) (L : List RefD) (n c : Nat) (hn : n = L.length) (w : World) (h : RefsAt w a L) (hl : L.length ≤ 9223372036854775807) :
    Calls Tryz.prog 44 #[.slice a n c] w fun e w' => e = .returned (.int .i64 (linksErr L)) ∧ Below w.heap.size w w' := by
  subst hn
  have HR := Lib.hid h
  clear h
  by_cases h16 : 16 < L.length
  · have hd : decide ((16 : Int) < (L.length : Int)) = true := decide_eq_true (by omega)
    have hv : Hid (linksErr L = 6) := Lib.hid (by unfold linksErr; exact if_pos h16)
    go_enter Tryz.func44, Tryz.ntmps44
    go_wp2_with fail
    go_ret
    exact ⟨by rw [hv.out]; rfl, Below.refl _ _⟩
  · have hd : decide ((16 : Int) < (L.length : Int)) = false := decide_eq_false (by omega)
    have hv : Hid (linksErr L = linksFrom none L) := Lib.hid (by unfold linksErr; exact if_neg h16)
    go_enter Tryz.func44, Tryz.ntmps44
    go_wp2_with fail
    go_loopw [3, 4, 10] (fun a b i wr => ∃ j : Nat, j ≤ L.length ∧ i = .int .i64 j ∧ Hid (linksErr L = linksFrom (prevOf L j) (L.drop j)) ∧ Hid (Below w.heap.size w wr)) (fun _ _ i _ => L.length - (intOf i).toNat)
    case atStart => exact ⟨0, by omega, rfl, hv, Lib.hid (Below.refl _ _)⟩
    case round =>
      obtain ⟨j, hj, rfl, hG, hK⟩ := hrel
      by_cases hlt : j < L.length
      · have hlt2 : decide (j < L.length) = true := decide_eq_true hlt
        obtain ⟨b, o, hA, hrg⟩ := refs_cells (refs_below HR.out hK.out) hlt
        subst hA
        have g0 : wr.cell? ⟨b, o + j * 2, none⟩ = some (.int .i64 L[j].trace) := hrg 0 _ rfl
        have g1 : wr.cell? ⟨b, o + j * 2 + 1, none⟩ = some (.int .i64 L[j].id) := hrg 1 _ rfl
        clear hrg
        have hD := Lib.hid (linksFrom_drop (p := prevOf L j) hlt)
        have hp1 : prevOf L (j + 1) = some L[j] := List.getElem?_eq_getElem hlt
        have hnext : Hid (linkErr (prevOf L j) L[j] = 0 → linksErr L = linksFrom (prevOf L (j + 1)) (L.drop (j + 1))) := Lib.hid (fun h => by rw [hG.out, hD.out, if_neg (by rw [h]; decide), hp1])
        have hfin : Hid (linkErr (prevOf L j) L[j] ≠ 0 → linksErr L = linkErr (prevOf L j) L[j]) := Lib.hid (fun h => by rw [hG.out, hD.out, if_pos h])
        have hKA := Lib.hid (hK.out.alloc hK.out.size (.cells #[.int .i64 L[j].trace, .int .i64 L[j].id] 113))
        clear hD hp1
        by_cases h0 : j = 0
        · have hj0 : decide ((0 : Int) < (j : Int)) = false := decide_eq_false (by omega)
          have hj1 : decide (0 < j) = false := decide_eq_false (by omega)
          have hj2 : ¬ 0 < j := by omega
          have hpn : prevOf L j = none := by rw [h0]; rfl
          generalize L[j] = x at *
          rw [hpn] at hnext hfin
          have hle : Hid (linkErr none x = if badX x.trace = true ∨ badX x.id = true then 2 else 0) := Lib.hid rfl
          generalize linkErr none x = le at *
          clear hpn h0
          cases hb1 : badX x.trace
          · cases hb2 : badX x.id
            · have hz := Lib.hid (hnext.out (by rw [hle.out, hb1, hb2]; simp))
              clear hfin hnext hle
              go_wp2_with (first
                | (go_at_call 40; (with_reducible refine (badId_any _ _).mono ?_); rintro e w' ⟨rfl, rfl⟩))
              go_quiet (fail)
              go_wp2_with fail
              exact ⟨⟨j + 1, by omega, by go_num, hz, Lib.hid (hKA.out.trans ((Grew.drewN _ nq).b.mono hKA.out.size))⟩, by simp [intOf]; omega⟩
            · have hz := Lib.hid (hfin.out (by rw [hle.out, hb1, hb2]; simp))
              have hz2 : Hid (linksErr L = 2) := Lib.hid (by rw [hz.out, hle.out, hb1, hb2]; simp)
              clear hfin hnext hle hz
              go_wp2_with (first
                | (go_at_call 40; (with_reducible refine (badId_any _ _).mono ?_); rintro e w' ⟨rfl, rfl⟩))
              go_ret
              exact ⟨by rw [hz2.out]; rfl, hKA.out⟩
          · have hz := Lib.hid (hfin.out (by rw [hle.out, hb1]; simp))
            have hz2 : Hid (linksErr L = 2) := Lib.hid (by rw [hz.out, hle.out, hb1]; simp)
            clear hfin hnext hle hz
            go_wp2_with (first
                | (go_at_call 40; (with_reducible refine (badId_any _ _).mono ?_); rintro e w' ⟨rfl, rfl⟩))
            go_ret
            exact ⟨by rw [hz2.out]; rfl, hKA.out⟩
        · have hj0 : decide ((0 : Int) < (j : Int)) = true := decide_eq_true (by omega)
          have hj1 : decide (0 < j) = true := decide_eq_true (by omega)
          have hj2 : 0 < j := by omega
          obtain ⟨m, hm⟩ : ∃ m, j = m + 1 := ⟨j - 1, by omega⟩
          have hml : m < L.length := by omega
          obtain ⟨b', o', hA', hyr⟩ := refs_cells (refs_below HR.out hK.out) hml
          obtain ⟨rfl, rfl⟩ : b' = b ∧ o' = o := by cases hA'; exact ⟨rfl, rfl⟩
          have hyl := rangeAt_lt hyr (Nat.succ_pos _)
          have hpn : prevOf L j = some L[m] := by rw [hm]; exact List.getElem?_eq_getElem hml
          have hw1 : IntKind.i64.wrap ((j : Int) - 1) = (m : Int) := by rw [IntWalk.i64_in _ (by omega)]; omega
          generalize L[j] = x at *
          generalize L[m] = y at *
          rw [hpn] at hnext hfin
          have hle : Hid (linkErr (some y) x = if badX x.trace = true ∨ badX x.id = true then 2 else if 0 ≤ cmpR y x then 8 else 0) := Lib.hid rfl
          generalize linkErr (some y) x = le at *
          have hjm := Lib.hid hm
          clear hpn hA' hm
          cases hb1 : badX x.trace
          · cases hb2 : badX x.id
            · have hz0 : Hid (le = if 0 ≤ cmpR y x then 8 else 0) := Lib.hid (by rw [hle.out, hb1, hb2]; simp)
              clear hle
              have hxr := Lib.hid (fun W (h : Below (wr.alloc (.cells #[.int .i64 x.trace, .int .i64 x.id] 113)).heap.size (wr.alloc (.cells #[.int .i64 x.trace, .int .i64 x.id] 113)) W) k v (hv : x.cells[k]? = some v) => (cell_blk (blk_keep h (blk_new wr #[.int .i64 x.trace, .int .i64 x.id] 113)) (0 + k) (by rw [Nat.zero_add]; show x.cells.toArray[k]? = some v; simpa using hv) : W.cell? ⟨wr.heap.size, 0 + k, none⟩ = some v))
              have hyr2 := Lib.hid (fun W (h : Below (wr.alloc (.cells #[.int .i64 x.trace, .int .i64 x.id] 113)).heap.size (wr.alloc (.cells #[.int .i64 x.trace, .int .i64 x.id] 113)) W) => rangeAt_below (rangeAt_grew hyr (Nat.succ_pos _) (Grew.alloc wr (.cells #[.int .i64 x.trace, .int .i64 x.id] 113))) (by simp; omega) h)
              obtain ⟨dR, hdR, hdR'⟩ := rowR
              clear hyr
              go_wp2_with (first
                | (go_at_call 40; (with_reducible refine (badId_any _ _).mono ?_); rintro e w' ⟨rfl, rfl⟩))
              refine wp_region_quiet (C := Below (wr.alloc (.cells #[.int .i64 x.trace, .int .i64 x.id] 113)).heap.size (wr.alloc (.cells #[.int .i64 x.trace, .int .i64 x.id] 113))) (by kernel_rfl) (by kernel_rfl) (below_drew _) ?_
              iterate 7
                refine wpQuiet_step (fun K hK => ?_)
                go_simp
                first
                  | (refine ⟨_, fun _ _ => rfl, hK _ ?_⟩; clear hK K)
              refine wpQuiet_step (fun K hK => ?_)
              refine quiet_load (by rfl) 113 (.tmp 31) rfl b' _ rfl y.cells dR (fun W hW' => hyr2.out W hW') hdR hdR' (by kernel_rfl) (hK _ ?_)
              clear hK K
              refine wpQuiet_step (fun K hK => ?_)
              refine quiet_load (by rfl) 113 (.tmp 4) rfl wr.heap.size _ rfl x.cells dR (fun W hW' => hxr.out W hW') hdR hdR' (by kernel_rfl) (hK _ ?_)
              clear hK K
              have hcr := Lib.hid (fun W => cmpR_any y x W)
              generalize cmpR y x = r at *
              by_cases hr : 0 ≤ r
              · have hr1 : decide (0 ≤ r) = true := decide_eq_true hr
                have hz : Hid (linksErr L = 8) := Lib.hid (by rw [hfin.out (by rw [hz0.out, if_pos hr]; decide), hz0.out, if_pos hr])
                iterate 4
                  refine wpQuiet_step (fun K hK => ?_)
                  go_simp
                  first
                    | (refine ⟨_, fun _ _ => rfl, hK _ ?_⟩; clear hK K)
                    | (refine ⟨_, fun W' hW' => (hcr.out W').mono (fun e w' h => ⟨h.1, hW'.trans (h.2.b.mono (by have := hW'.size; simpa using this))⟩), hK _ ?_⟩; clear hK K)
                refine wpQuiet_nil ?_
                intro W hW
                have hW2 := Lib.hid (hKA.out.trans (hW.mono hKA.out.size))
                clear hW
                go_wp2_with fail
                go_ret
                exact ⟨by rw [hz.out]; rfl, hW2.out⟩
              · have hr1 : decide (0 ≤ r) = false := decide_eq_false hr
                have hz := Lib.hid (hnext.out (by rw [hz0.out, if_neg hr]))
                iterate 4
                  refine wpQuiet_step (fun K hK => ?_)
                  go_simp
                  first
                    | (refine ⟨_, fun _ _ => rfl, hK _ ?_⟩; clear hK K)
                    | (refine ⟨_, fun W' hW' => (hcr.out W').mono (fun e w' h => ⟨h.1, hW'.trans (h.2.b.mono (by have := hW'.size; simpa using this))⟩), hK _ ?_⟩; clear hK K)
                refine wpQuiet_nil ?_
                intro W hW
                have hW2 := Lib.hid (hKA.out.trans (hW.mono hKA.out.size))
                clear hW
                go_wp2_with fail
                exact ⟨⟨j + 1, by omega, by go_num, hz, hW2⟩, by simp [intOf]; omega⟩
            · have hz := Lib.hid (hfin.out (by rw [hle.out, hb1, hb2]; simp))
              have hz2 : Hid (linksErr L = 2) := Lib.hid (by rw [hz.out, hle.out, hb1, hb2]; simp)
              clear hfin hnext hle hz
              go_wp2_with (first
                | (go_at_call 40; (with_reducible refine (badId_any _ _).mono ?_); rintro e w' ⟨rfl, rfl⟩))
              go_ret
              exact ⟨by rw [hz2.out]; rfl, hKA.out⟩
          · have hz := Lib.hid (hfin.out (by rw [hle.out, hb1]; simp))
            have hz2 : Hid (linksErr L = 2) := Lib.hid (by rw [hz.out, hle.out, hb1]; simp)
            clear hfin hnext hle hz
            go_wp2_with (first
                | (go_at_call 40; (with_reducible refine (badId_any _ _).mono ?_); rintro e w' ⟨rfl, rfl⟩))
            go_ret
            exact ⟨by rw [hz2.out]; rfl, hKA.out⟩
      · have hj2 : j = L.length := by omega
        subst hj2
        have hlt2 : decide (L.length < L.length) = false := decide_eq_false hlt
        have hz : Hid (linksErr L = 0) := Lib.hid (by rw [hG.out, List.drop_length]; cases prevOf L L.length <;> rfl)
        go_wp2_with fail
        go_ret
        exact ⟨by rw [hz.out]; rfl, hK.out⟩
end Go.Proofs.YtnddlpfmagdbfaaGreatDoor
/- Contract: the error of a span's attributes. -/
namespace Go.Proofs.YtnddlpfmagdbfaaGreatDoor
open Go Go.Proofs Go.RowKit
set_option linter.unusedVariables false
set_option linter.unusedSimpArgs false
/-- Is a string at most another one? -/
def leS (a b : ByteArray) : Bool := Op.bytesLess a.toList b.toList || a.toList == b.toList
/-- The error of an attribute behind another one. -/
def attrErr (prev : Option AttrD) (x : AttrD) : Int :=
  if nameB x.key = false then 11 else if (match prev with | none => false | some y => leS x.key y.key) = true then 8 else valC x.kind x.num x.text
def attrsFrom : Option AttrD → List AttrD → Int
  | _, [] => 0
  | p, x :: l => if attrErr p x ≠ 0 then attrErr p x else attrsFrom (some x) l
def attrsErr (L : List AttrD) : Int := if 32 < L.length then 6 else attrsFrom none L
theorem attrsFrom_drop {L : List AttrD} {p : Option AttrD} {j : Nat} (h : j < L.length) : attrsFrom p (L.drop j) = if attrErr p L[j] ≠ 0 then attrErr p L[j] else attrsFrom (some L[j]) (L.drop (j + 1)) := by
  rw [List.drop_eq_getElem_cons h]; rfl
theorem attrs_cells {W : World} {a : Option Addr} {L : List AttrD} (h : AttrsAt W a L) {j : Nat} (hj : j < L.length) : ∃ b o, a = some ⟨b, o, none⟩ ∧ W.rangeAt b (o + j * 4) L[j].cells := by
  obtain ⟨⟨b, o, g⟩, h1, h2, h3, h4, h5⟩ := h j hj
  cases g with
  | none =>
    rw [Addr.add_mid] at h2 h3 h4 h5
    refine ⟨b, o, h1, fun k v hv => ?_⟩
    unfold AttrD.cells at hv
    match k, hv with
    | 0, hv => cases hv; exact h2
    | 1, hv => cases hv; exact h3
    | 2, hv => cases hv; exact h4
    | 3, hv => cases hv; exact h5
  | some g =>
    exfalso
    obtain ⟨ad, k1, k2, _⟩ := h 0 (by omega)
    obtain rfl : (⟨b, o, some g⟩ : Addr) = ad := Option.some.inj (h1.symm.trans k1)
    unfold World.cell? Addr.add at k2
    revert k2
    simp
    split <;> simp
set_option maxHeartbeats 16000000 in
set_option maxRecDepth 20000 in
theorem attrs_any (a : Option Addr) (L : List AttrD) (n c : Nat) (hn : n = L.length) (w : World) (h : AttrsAt w a L) (hl : L.length ≤ 9223372036854775807) (hs : ∀ x ∈ L, x.key.size ≤ 9223372036854775807 ∧ x.text.size ≤ 9223372036854775807) :
    Calls Tryz.prog 43 #[.slice a n c] w fun e w' => e = .returned (.int .i64 (attrsErr L)) ∧ Below w.heap.size w w' := by
  subst hn
  have HR := Lib.hid h
  have HS := Lib.hid hs
  clear h hs
  by_cases h16 : 32 < L.length
  · have hd : decide ((32 : Int) < (L.length : Int)) = true := decide_eq_true (by omega)
    have hv : Hid (attrsErr L = 6) := Lib.hid (by unfold attrsErr; exact if_pos h16)
    go_enter Tryz.func43, Tryz.ntmps43
    go_wp2_with fail
    go_ret
    exact ⟨by rw [hv.out]; rfl, Below.refl _ _⟩
  · have hd : decide ((32 : Int) < (L.length : Int)) = false := decide_eq_false (by omega)
    have hv : Hid (attrsErr L = attrsFrom none L) := Lib.hid (by unfold attrsErr; exact if_neg h16)
    go_enter Tryz.func43, Tryz.ntmps43
    go_wp2_with fail
    go_loopw [3, 4, 5, 11] (fun a b d i wr => ∃ j : Nat, j ≤ L.length ∧ i = .int .i64 j ∧ Hid (attrsErr L = attrsFrom (prevOf L j) (L.drop j)) ∧ Hid (Below w.heap.size w wr)) (fun _ _ _ i _ => L.length - (intOf i).toNat)
    case atStart => exact ⟨0, by omega, rfl, hv, Lib.hid (Below.refl _ _)⟩
    case round =>
      obtain ⟨j, hj, rfl, hG, hK⟩ := hrel
      by_cases hlt : j < L.length
      · have hlt2 : decide (j < L.length) = true := decide_eq_true hlt
        obtain ⟨b, o, hA, hrg⟩ := attrs_cells (attrs_below HR.out hK.out) hlt
        subst hA
        have g0 : wr.cell? ⟨b, o + j * 4, none⟩ = some (.string L[j].key) := hrg 0 _ rfl
        have g1 : wr.cell? ⟨b, o + j * 4 + 1, none⟩ = some (.int .i64 L[j].kind) := hrg 1 _ rfl
        have g2 : wr.cell? ⟨b, o + j * 4 + 2, none⟩ = some (.string L[j].text) := hrg 2 _ rfl
        have g3 : wr.cell? ⟨b, o + j * 4 + 3, none⟩ = some (.int .i64 L[j].num) := hrg 3 _ rfl
        clear hrg
        have hsz := HS.out _ (List.getElem_mem hlt)
        have hD := Lib.hid (attrsFrom_drop (p := prevOf L j) hlt)
        have hp1 : prevOf L (j + 1) = some L[j] := List.getElem?_eq_getElem hlt
        have hnext : Hid (attrErr (prevOf L j) L[j] = 0 → attrsErr L = attrsFrom (prevOf L (j + 1)) (L.drop (j + 1))) := Lib.hid (fun h => by rw [hG.out, hD.out, if_neg (by rw [h]; decide), hp1])
        have hfin : Hid (attrErr (prevOf L j) L[j] ≠ 0 → attrsErr L = attrErr (prevOf L j) L[j]) := Lib.hid (fun h => by rw [hG.out, hD.out, if_pos h])
        have hKA := Lib.hid (hK.out.alloc hK.out.size (.cells #[.string L[j].key, .int .i64 L[j].kind, .string L[j].text, .int .i64 L[j].num] 110))
        have hxB := Lib.hid (blk_new wr #[.string L[j].key, .int .i64 L[j].kind, .string L[j].text, .int .i64 L[j].num] 110)
        clear hD hp1
        by_cases h0 : j = 0
        · have hj0 : decide ((0 : Int) < (j : Int)) = false := decide_eq_false (by omega)
          have hj1 : decide (0 < j) = false := decide_eq_false (by omega)
          have hj2 : ¬ 0 < j := by omega
          have hpn : prevOf L j = none := by rw [h0]; rfl
          generalize L[j] = x at *
          rw [hpn] at hnext hfin
          have hle : Hid (attrErr none x = if nameB x.key = false then 11 else if false = true then 8 else valC x.kind x.num x.text) := Lib.hid rfl
          generalize attrErr none x = le at *
          have hN := Lib.hid (fun W => IsName_any x.key hsz.1 W)
          have hV := Lib.hid (fun W => CheckValue_any x.kind x.num x.text hsz.2 W)
          generalize valC x.kind x.num x.text = v at *
          clear hpn h0 hsz
          cases hb1 : nameB x.key
          · have hz : Hid (attrsErr L = 11) := Lib.hid (by rw [hfin.out (by rw [hle.out, hb1]; simp), hle.out, hb1]; simp)
            rw [hb1] at hN
            clear hfin hnext hle
            go_wp2_with (first
              | (go_at_call 41; (with_reducible refine (hN.out _).mono ?_); rintro e w' ⟨rfl, rfl⟩))
            go_ret
            exact ⟨by rw [hz.out]; rfl, hKA.out⟩
          · rw [hb1] at hN
            have hle2 : Hid (le = v) := Lib.hid (by rw [hle.out, hb1]; simp)
            clear hle
            by_cases hv0 : v = 0
            · have hv1 : (v != 0) = false := by rw [hv0]; rfl
              have hz := Lib.hid (hnext.out (by rw [hle2.out]; exact hv0))
              clear hfin hnext hle2 hv0
              go_wp2_with (first
                | (go_at_call 41; (with_reducible refine (hN.out _).mono ?_); rintro e w' ⟨rfl, rfl⟩))
              go_quiet (fail)
              go_wp2_with (first
                | (go_at_call 66; (with_reducible refine (hV.out _).mono ?_); rintro e w5 ⟨rfl, hk⟩; have hk := Lib.hid (hKA.out.trans (((Grew.drewN (wr.alloc (.cells #[.string x.key, .int .i64 x.kind, .string x.text, .int .i64 x.num] 110)) nq).b.trans hk).mono hKA.out.size))))
              exact ⟨⟨j + 1, by omega, by go_num, hz, hk⟩, by simp [intOf]; omega⟩
            · have hv1 : (v != 0) = true := by rw [bne_iff_ne]; exact hv0
              have hz : Hid (attrsErr L = v) := Lib.hid (by rw [hfin.out (by rw [hle2.out]; exact hv0), hle2.out])
              clear hfin hnext hle2 hv0
              go_wp2_with (first
                | (go_at_call 41; (with_reducible refine (hN.out _).mono ?_); rintro e w' ⟨rfl, rfl⟩))
              go_quiet (fail)
              go_wp2_with (first
                | (go_at_call 66; (with_reducible refine (hV.out _).mono ?_); rintro e w5 ⟨rfl, hk⟩; have hk := Lib.hid (hKA.out.trans (((Grew.drewN (wr.alloc (.cells #[.string x.key, .int .i64 x.kind, .string x.text, .int .i64 x.num] 110)) nq).b.trans hk).mono hKA.out.size))))
              go_ret
              exact ⟨by rw [hz.out]; rfl, hk.out⟩
        · have hj0 : decide ((0 : Int) < (j : Int)) = true := decide_eq_true (by omega)
          have hj1 : decide (0 < j) = true := decide_eq_true (by omega)
          have hj2 : 0 < j := by omega
          obtain ⟨m, hm⟩ : ∃ m, j = m + 1 := ⟨j - 1, by omega⟩
          have hml : m < L.length := by omega
          obtain ⟨b', o', hA', hyr⟩ := attrs_cells (attrs_below HR.out hK.out) hml
          obtain ⟨rfl, rfl⟩ : b' = b ∧ o' = o := by cases hA'; exact ⟨rfl, rfl⟩
          have y0 : wr.cell? ⟨b', o' + m * 4, none⟩ = some (.string L[m].key) := hyr 0 _ rfl
          clear hyr
          have hpn : prevOf L j = some L[m] := by rw [hm]; exact List.getElem?_eq_getElem hml
          have hw1 : IntKind.i64.wrap ((j : Int) - 1) = (m : Int) := by rw [IntWalk.i64_in _ (by omega)]; omega
          generalize L[j] = x at *
          generalize L[m] = y at *
          rw [hpn] at hnext hfin
          have hle : Hid (attrErr (some y) x = if nameB x.key = false then 11 else if leS x.key y.key = true then 8 else valC x.kind x.num x.text) := Lib.hid rfl
          generalize attrErr (some y) x = le at *
          have hN := Lib.hid (fun W => IsName_any x.key hsz.1 W)
          have hV := Lib.hid (fun W => CheckValue_any x.kind x.num x.text hsz.2 W)
          generalize valC x.kind x.num x.text = v at *
          have hjm := Lib.hid hm
          clear hpn hA' hm hsz
          have z0 := (Grew.alloc wr (.cells #[.string x.key, .int .i64 x.kind, .string x.text, .int .i64 x.num] 110)).cell y0
          cases hb1 : nameB x.key
          · have hz : Hid (attrsErr L = 11) := Lib.hid (by rw [hfin.out (by rw [hle.out, hb1]; simp), hle.out, hb1]; simp)
            rw [hb1] at hN
            clear hfin hnext hle
            go_wp2_with (first
              | (go_at_call 41; (with_reducible refine (hN.out _).mono ?_); rintro e w' ⟨rfl, rfl⟩))
            go_ret
            exact ⟨by rw [hz.out]; rfl, hKA.out⟩
          · rw [hb1] at hN
            go_wp2_with (first
              | (go_at_call 41; (with_reducible refine (hN.out _).mono ?_); rintro e w' ⟨rfl, rfl⟩))
            go_quiet (fail)
            unfold leS at hle
            generalize (Op.bytesLess x.key.toList y.key.toList || x.key.toList == y.key.toList) = q at *
            cases q
            · have hle2 : Hid (le = v) := Lib.hid (by rw [hle.out, hb1]; simp)
              clear hle
              by_cases hv0 : v = 0
              · have hv1 : (v != 0) = false := by rw [hv0]; rfl
                have hz := Lib.hid (hnext.out (by rw [hle2.out]; exact hv0))
                clear hfin hnext hle2 hv0
                go_wp2_with (first
                  | (go_at_call 66; (with_reducible refine (hV.out _).mono ?_); rintro e w5 ⟨rfl, hk⟩; have hk := Lib.hid (hKA.out.trans (((Grew.drewN (wr.alloc (.cells #[.string x.key, .int .i64 x.kind, .string x.text, .int .i64 x.num] 110)) nq).b.trans hk).mono hKA.out.size))))
                exact ⟨⟨j + 1, by omega, by go_num, hz, hk⟩, by simp [intOf]; omega⟩
              · have hv1 : (v != 0) = true := by rw [bne_iff_ne]; exact hv0
                have hz : Hid (attrsErr L = v) := Lib.hid (by rw [hfin.out (by rw [hle2.out]; exact hv0), hle2.out])
                clear hfin hnext hle2 hv0
                go_wp2_with (first
                  | (go_at_call 66; (with_reducible refine (hV.out _).mono ?_); rintro e w5 ⟨rfl, hk⟩; have hk := Lib.hid (hKA.out.trans (((Grew.drewN (wr.alloc (.cells #[.string x.key, .int .i64 x.kind, .string x.text, .int .i64 x.num] 110)) nq).b.trans hk).mono hKA.out.size))))
                go_ret
                exact ⟨by rw [hz.out]; rfl, hk.out⟩
            · have hz : Hid (attrsErr L = 8) := Lib.hid (by rw [hfin.out (by rw [hle.out, hb1]; simp), hle.out, hb1]; simp)
              clear hle hfin hnext
              go_wp2_with fail
              go_ret
              exact ⟨by rw [hz.out]; rfl, hKA.out.trans ((Grew.drewN _ nq).b.mono hKA.out.size)⟩
      · have hj2 : j = L.length := by omega
        subst hj2
        have hlt2 : decide (L.length < L.length) = false := decide_eq_false hlt
        have hz : Hid (attrsErr L = 0) := Lib.hid (by rw [hG.out, List.drop_length]; cases prevOf L L.length <;> rfl)
        go_wp2_with fail
        go_ret
        exact ⟨by rw [hz.out]; rfl, hK.out⟩
end Go.Proofs.YtnddlpfmagdbfaaGreatDoor
/- Contract: the error of a span. -/
namespace Go.Proofs.YtnddlpfmagdbfaaGreatDoor
open Go Go.Proofs Go.RowKit
set_option linter.unusedVariables false
set_option linter.unusedSimpArgs false
/-- The error of a span's own fields. -/
def headErr (x : SpanD) : Int :=
  if badX x.trace = true ∨ badX x.id = true ∨ x.parent < 0 ∨ 1099511627776 < x.parent ∨ x.rev < 0 ∨ 1048576 < x.rev ∨ x.clock < 1 ∨ 1048576 < x.clock then 2
  else if x.kind < 1 ∨ 5 < x.kind then 12
  else if nameB x.svc = false ∨ nameB x.op = false ∨ (x.ver.toList ≠ [] ∧ nameB x.ver = false) then 11
  else if min x.st x.en < -1099511627776 ∨ 1099511627776 < max x.st x.en then 32
  else if x.en < x.st then 8
  else if 1099511627776 < wrap64 (x.en - x.st) then 32
  else 0
def spanErr (x : SpanD) : Int := if headErr x ≠ 0 then headErr x else orI [attrsErr x.attrs, linksErr x.links]
set_option maxHeartbeats 16000000 in
set_option maxRecDepth 20000 in
theorem spanCheck_any (x : SpanD) (w : World) (hx : x.Held w) (hs : x.Txt) :
    Calls Tryz.prog 26 #[.agg x.cells.toArray] w fun e w' => e = .returned (.int .i64 (spanErr x)) ∧ Below w.heap.size w w' := by
  have hBx := Lib.hid ((Below.refl _ w).alloc (Nat.le_refl _) (.cells x.cells.toArray 73))
  have hN1 := Lib.hid (fun W => IsName_any x.svc hs.svc W)
  have hN2 := Lib.hid (fun W => IsName_any x.op hs.op W)
  have hN3 := Lib.hid (fun W => IsName_any x.ver hs.ver W)
  have HX := Lib.hid hx
  have HA := Lib.hid (fun W (h : Below w.heap.size w W) => attrs_any x.aA x.attrs x.attrs.length x.aC rfl W (hx.keeps W h).attrs hx.na hs.attrs)
  have HL := Lib.hid (fun W (h : Below w.heap.size w W) => links_any x.lA x.links x.links.length x.lC rfl W (hx.keeps W h).links hx.nl)
  clear hx hs
  have hB := Lib.hid (blk_new w x.cells.toArray 73)
  have hc12 : Hid ((w.alloc (.cells x.cells.toArray 73)).cell? ⟨w.heap.size, 12, none⟩ = some (.slice x.aA x.attrs.length x.aC)) := Lib.hid (cell_blk hB.out 12 rfl)
  have hK13 := Lib.hid (fun W (h : Below (w.alloc (.cells x.cells.toArray 73)).heap.size (w.alloc (.cells x.cells.toArray 73)) W) => (cell_blk (blk_keep h hB.out) 13 rfl : W.cell? ⟨w.heap.size, 13, none⟩ = some (.slice x.lA x.links.length x.lC)))
  clear hB
  unfold SpanD.cells at hBx hc12 hK13 ⊢
  go_enter Tryz.func26, Tryz.ntmps26
  go_wp2_with (first
    | (go_at_call 40; (with_reducible refine (badId_any _ _).mono ?_); rintro e w' ⟨rfl, rfl⟩)
    | (go_at_call 41; (first | (with_reducible refine (hN1.out _).mono ?_) | (with_reducible refine (hN2.out _).mono ?_) | (with_reducible refine (hN3.out _).mono ?_)); rintro e w' ⟨rfl, rfl⟩))
  all_goals try
    go_ret
    refine ⟨?_, hBx.out⟩
    first
      | (simp_all [spanErr, headErr]; done)
      | (simp_all [spanErr, headErr]; omega)
      | (have hw : wrap64 (x.en - x.st) = x.en - x.st := IntWalk.wrap64_in _ (by omega)
         have hh : headErr x = 32 := by
           unfold headErr
           rw [if_neg (by rintro (h | h | h | h | h | h | h | h) <;> first | omega | simp_all), if_neg (by omega), if_neg (by rintro (h | h | ⟨h, h'⟩) <;> simp_all), if_neg (by omega), if_neg (by omega), if_pos (by rw [hw]; omega)]
         have h9 : spanErr x = 32 := by
           unfold spanErr
           rw [hh]
           exact if_pos (by decide)
         rw [h9]
         rfl)
  all_goals
    have hv0 : Hid (headErr x = 0) := Lib.hid (by
      have hw : wrap64 (x.en - x.st) = x.en - x.st := IntWalk.wrap64_in _ (by omega)
      unfold headErr
      rw [if_neg (by rintro (h | h | h | h | h | h | h | h) <;> first | omega | simp_all), if_neg (by omega), if_neg (by rintro (h | h | ⟨h, h'⟩) <;> simp_all), if_neg (by omega), if_neg (by omega), if_neg (by rw [hw]; omega)])
    have hv : Hid (spanErr x = orI [attrsErr x.attrs, linksErr x.links]) := Lib.hid (if_neg (by
      have h : headErr x = 0 := hv0.out
      rw [h]
      simp))
    generalize attrsErr x.attrs = ea at *
    generalize linksErr x.links = el at *
    have c12 := hc12.out
    have c13 := hK13.out _ (Below.refl _ _)
    clear hc12
    generalize w.alloc (.cells #[.int .i64 x.trace, .int .i64 x.id, .int .i64 x.parent, .int .i64 x.rev, .int .i64 x.clock, .int .i64 x.kind, .string x.svc, .string x.ver, .string x.op, .int .i64 x.st, .int .i64 x.en, .bool x.err, .slice x.aA x.attrs.length x.aC, .slice x.lA x.links.length x.lC] 73) = W0 at *
    go_region_with (first
      | (go_at_call 43; (with_reducible refine (HA.out _ (hBx.out.trans ((below_drew W0).mono hBx.out.size))).mono ?_); rintro e w1 ⟨rfl, hk1⟩; have hk1 := Lib.hid ((below_drew W0).trans hk1); have y13 : w1.cell? ⟨w.heap.size, 13, none⟩ = some (.slice x.lA x.links.length x.lC) := hK13.out w1 hk1.out; clear c12 c13)
      | (go_at_call 44; (with_reducible refine (HL.out _ (hBx.out.trans (hk1.out.mono hBx.out.size))).mono ?_); rintro e w2 ⟨rfl, hk2⟩; have hk2 := Lib.hid (hk1.out.trans (hk2.mono hk1.out.size)); have hO := fun t => orE_any (some ⟨w2.heap.size, 0, none⟩) [ea, el] 2 2 _ rfl (ints_new w2 [ea, el] t) (by simp); simp only [List.map_cons, List.map_nil] at hO)
      | (go_at_call 42; (with_reducible refine (hO _).mono ?_); rintro e w3 ⟨rfl, rfl⟩))
    all_goals
      go_wp2_with fail
      go_ret
      exact ⟨by rw [hv.out]; rfl, (hBx.out.trans (hk2.out.mono hBx.out.size)).alloc (Nat.le_trans hBx.out.size hk2.out.size) _⟩
/-- A span in order has few attributes and links. -/
theorem spanErr_small {x : SpanD} (h : spanErr x = 0) : x.attrs.length ≤ 32 ∧ x.links.length ≤ 16 := by
  unfold spanErr at h
  split at h
  · contradiction
  · unfold orI at h
    split at h
    · contradiction
    · rename_i _ h1
      unfold orI at h
      split at h
      · contradiction
      · rename_i h2
        simp only [ne_eq, Decidable.not_not] at h1 h2
        unfold attrsErr at h1
        unfold linksErr at h2
        split at h1
        · cases h1
        · split at h2
          · cases h2
          · omega
end Go.Proofs.YtnddlpfmagdbfaaGreatDoor
/- Contract: the error of a trace. -/
namespace Go.Proofs.YtnddlpfmagdbfaaGreatDoor
open Go Go.Proofs Go.RowKit
set_option linter.unusedVariables false
set_option linter.unusedSimpArgs false
def memErr (id : Int) (x : SpanD) : Int := if spanErr x ≠ 0 then spanErr x else if x.trace ≠ id then 17 else 0
/-- What is asked of a trace's id and weight. -/
def traceOk (t : TraceD) : Prop := 1 ≤ t.id ∧ t.id ≤ 1099511627776 ∧ 1 ≤ t.weight ∧ t.weight ≤ 1024 ∧ Go.bits .and .i64 t.weight (t.weight - 1) = 0
instance (t : TraceD) : Decidable (traceOk t) := by unfold traceOk; infer_instance
def traceErr (t : TraceD) : Int := if traceOk t then firstErr (memErr t.id) t.spans else 2
set_option maxHeartbeats 8000000 in
set_option maxRecDepth 20000 in
theorem traceCheck_ok (t : TraceD) (w : World) (hok : traceOk t) (ht : t.Lies w) :
    Calls Tryz.prog 15 #[.agg t.cells.toArray] w fun e w' => e = .returned (.int .i64 (firstErr (memErr t.id) t.spans)) ∧ Below w.heap.size w w' := by
  have hBx := Lib.hid ((Below.refl _ w).alloc (Nat.le_refl _) (.cells t.cells.toArray 27))
  have hPB := Lib.hid (blk_new w t.cells.toArray 27)
  have HT := Lib.hid ht
  have hlen := ht.len
  clear ht
  obtain ⟨h1, h2, h3, h4, h5⟩ := hok
  obtain ⟨id, wt, A, c, L⟩ := t
  unfold TraceD.cells at hBx hPB ⊢
  simp only at h1 h2 h3 h4 h5 hlen hBx hPB ⊢
  have d1 : decide (id < 1) = false := decide_eq_false (by omega)
  have d2 : decide (1099511627776 < id) = false := decide_eq_false (by omega)
  have d3 : decide (wt < 1) = false := decide_eq_false (by omega)
  have d4 : decide (1024 < wt) = false := decide_eq_false (by omega)
  have d5 : IntKind.i64.wrap (wt - 1) = wt - 1 := IntWalk.i64_in _ (by omega)
  have d6 : (Go.bits .and .i64 wt (wt - 1) != 0) = false := by rw [h5]; rfl
  go_enter Tryz.func15, Tryz.ntmps15
  go_wp2_with fail
  go_loopw [4, 5, 36] (fun a b i wr => ∃ j : Nat, j ≤ L.length ∧ i = .int .i64 j ∧ Hid (∀ m (hm : m < j) (h : m < L.length), memErr id L[m] = 0) ∧ Hid (Below (w.alloc (.cells #[.int .i64 id, .int .i64 wt, .slice A L.length c] 27)).heap.size (w.alloc (.cells #[.int .i64 id, .int .i64 wt, .slice A L.length c] 27)) wr)) (fun _ _ i _ => L.length - (intOf i).toNat)
  case atStart => exact ⟨0, by omega, rfl, Lib.hid (fun m hm => by omega), Lib.hid (Below.refl _ _)⟩
  case round =>
    obtain ⟨j, hj, rfl, hG, hW⟩ := hrel
    have hK2 := Lib.hid (hBx.out.trans (hW.out.mono hBx.out.size))
    have hP2 := Lib.hid (blk_keep hW.out hPB.out)
    by_cases hlt : j < L.length
    · have hlt2 : decide (j < L.length) = true := decide_eq_true hlt
      obtain ⟨b, o, hA, hr⟩ := (HT.out.at_.below hK2.out) j hlt
      simp only at hA
      have hmem := List.getElem_mem hlt
      have hck := Lib.hid (fun W h => spanCheck_any L[j] W ((HT.out.held _ hmem).keeps W h) (HT.out.txt _ hmem))
      have hstep := Lib.hid (fun (h : memErr id L[j] = 0) m (hm : m < j + 1) (h' : m < L.length) => (by
        by_cases e : m = j
        · subst e; exact h
        · exact hG.out m (by omega) h' : memErr id L[m] = 0))
      have hfin : Hid (memErr id L[j] ≠ 0 → firstErr (memErr id) L = memErr id L[j]) := Lib.hid (fun h => firstErr_at (memErr id) L j hlt h (fun m hm => hG.out m hm (by omega)))
      subst hA
      have hme : Hid (memErr id L[j] = if spanErr L[j] ≠ 0 then spanErr L[j] else if L[j].trace ≠ id then 17 else 0) := Lib.hid rfl
      clear hmem
      generalize L[j] = x at *
      have f0 : wr.cell? ⟨b, o + j * 14, none⟩ = some (.int .i64 x.trace) := hr 0 _ rfl
      have f1 : wr.cell? ⟨b, o + j * 14 + 1, none⟩ = some (.int .i64 x.id) := hr 1 _ rfl
      have f2 : wr.cell? ⟨b, o + j * 14 + 2, none⟩ = some (.int .i64 x.parent) := hr 2 _ rfl
      have f3 : wr.cell? ⟨b, o + j * 14 + 3, none⟩ = some (.int .i64 x.rev) := hr 3 _ rfl
      have f4 : wr.cell? ⟨b, o + j * 14 + 4, none⟩ = some (.int .i64 x.clock) := hr 4 _ rfl
      have f5 : wr.cell? ⟨b, o + j * 14 + 5, none⟩ = some (.int .i64 x.kind) := hr 5 _ rfl
      have f6 : wr.cell? ⟨b, o + j * 14 + 6, none⟩ = some (.string x.svc) := hr 6 _ rfl
      have f7 : wr.cell? ⟨b, o + j * 14 + 7, none⟩ = some (.string x.ver) := hr 7 _ rfl
      have f8 : wr.cell? ⟨b, o + j * 14 + 8, none⟩ = some (.string x.op) := hr 8 _ rfl
      have f9 : wr.cell? ⟨b, o + j * 14 + 9, none⟩ = some (.int .i64 x.st) := hr 9 _ rfl
      have f10 : wr.cell? ⟨b, o + j * 14 + 10, none⟩ = some (.int .i64 x.en) := hr 10 _ rfl
      have f11 : wr.cell? ⟨b, o + j * 14 + 11, none⟩ = some (.bool x.err) := hr 11 _ rfl
      have f12 : wr.cell? ⟨b, o + j * 14 + 12, none⟩ = some (.slice x.aA x.attrs.length x.aC) := hr 12 _ rfl
      have f13 : wr.cell? ⟨b, o + j * 14 + 13, none⟩ = some (.slice x.lA x.links.length x.lC) := hr 13 _ rfl
      clear hr
      have hck := Lib.hid (hck.out (wr.alloc (.cells x.cells.toArray 73)) (hK2.out.alloc hK2.out.size _))
      have hRB := Lib.hid (blk_new wr x.cells.toArray 73)
      have hgr := Lib.hid (Grew.alloc wr (.cells x.cells.toArray 73)).b
      unfold SpanD.cells at hck hRB hgr
      generalize spanErr x = e at *
      by_cases he : e = 0
      · have he2 : (e != 0) = false := by rw [he]; rfl
        rw [if_neg (by simpa using he)] at hme
        clear he
        by_cases ht : x.trace = id
        · have ht2 : (x.trace != id) = false := by rw [ht]; simp
          have hz := Lib.hid (hstep.out (by rw [hme.out, if_neg (by simpa using ht)]))
          clear ht hfin hme
          go_wp2_with (first
            | (go_at_call 26; (with_reducible refine hck.out.mono ?_); rintro e' w3 ⟨rfl, hk⟩; have y0 : w3.cell? ⟨wr.heap.size, 0, none⟩ = some (.int .i64 x.trace) := cell_blk (blk_keep hk hRB.out) 0 rfl; have hk3 := Lib.hid (hW.out.trans ((hgr.out.trans (hk.mono hgr.out.size)).mono hW.out.size)); have y1 : w3.cell? ⟨w.heap.size, 0, none⟩ = some (.int .i64 id) := cell_blk (blk_keep hk3.out hPB.out) 0 rfl; clear hk))
          exact ⟨⟨j + 1, by omega, by go_num, hz, hk3⟩, by simp [intOf]; omega⟩
        · have ht2 : (x.trace != id) = true := by rw [bne_iff_ne]; exact ht
          have hz : Hid (firstErr (memErr id) L = 17) := Lib.hid (by rw [hfin.out (by rw [hme.out, if_pos ht]; decide), hme.out, if_pos ht])
          clear ht hfin hme
          go_wp2_with (first
            | (go_at_call 26; (with_reducible refine hck.out.mono ?_); rintro e' w3 ⟨rfl, hk⟩; have y0 : w3.cell? ⟨wr.heap.size, 0, none⟩ = some (.int .i64 x.trace) := cell_blk (blk_keep hk hRB.out) 0 rfl; have hk3 := Lib.hid (hW.out.trans ((hgr.out.trans (hk.mono hgr.out.size)).mono hW.out.size)); have y1 : w3.cell? ⟨w.heap.size, 0, none⟩ = some (.int .i64 id) := cell_blk (blk_keep hk3.out hPB.out) 0 rfl; clear hk))
          go_ret
          exact ⟨by rw [hz.out]; rfl, hBx.out.trans (hk3.out.mono hBx.out.size)⟩
      · have he2 : (e != 0) = true := by rw [bne_iff_ne]; exact he
        rw [if_pos (by simpa using he)] at hme
        have hz : Hid (firstErr (memErr id) L = e) := Lib.hid (by rw [hfin.out (by rw [hme.out]; exact he), hme.out])
        clear he hfin hme
        go_wp2_with (first
          | (go_at_call 26; (with_reducible refine hck.out.mono ?_); rintro e' w3 ⟨rfl, hk⟩; have hk3 := Lib.hid (hW.out.trans ((hgr.out.trans (hk.mono hgr.out.size)).mono hW.out.size)); clear hk))
        go_ret
        exact ⟨by rw [hz.out]; rfl, hBx.out.trans (hk3.out.mono hBx.out.size)⟩
    · have hj2 : j = L.length := by omega
      subst hj2
      have hlt2 : decide (L.length < L.length) = false := decide_eq_false hlt
      have hz : Hid (firstErr (memErr id) L = 0) := Lib.hid (firstErr_none _ _ (fun m hm => hG.out m hm hm))
      go_wp2_with fail
      go_ret
      exact ⟨by rw [hz.out]; rfl, hK2.out⟩
set_option maxHeartbeats 8000000 in
set_option maxRecDepth 20000 in
theorem traceCheck_bad (t : TraceD) (w : World) (hno : ¬ traceOk t) :
    Calls Tryz.prog 15 #[.agg t.cells.toArray] w fun e w' => e = .returned (.int .i64 2) ∧ Below w.heap.size w w' := by
  have hBx := Lib.hid ((Below.refl _ w).alloc (Nat.le_refl _) (.cells t.cells.toArray 27))
  have hno := Lib.hid hno
  obtain ⟨id, wt, A, c, L⟩ := t
  unfold TraceD.cells at hBx ⊢
  simp only at hBx ⊢
  by_cases hd1 : id < 1
  · have d1 : decide (id < 1) = true := decide_eq_true hd1
    go_enter Tryz.func15, Tryz.ntmps15
    go_wp2_with fail
    go_ret
    exact ⟨rfl, hBx.out⟩
  have d1 : decide (id < 1) = false := decide_eq_false hd1
  by_cases hd2 : 1099511627776 < id
  · have d2 : decide (1099511627776 < id) = true := decide_eq_true hd2
    go_enter Tryz.func15, Tryz.ntmps15
    go_wp2_with fail
    go_ret
    exact ⟨rfl, hBx.out⟩
  have d2 : decide (1099511627776 < id) = false := decide_eq_false hd2
  by_cases hd3 : wt < 1
  · have d3 : decide (wt < 1) = true := decide_eq_true hd3
    go_enter Tryz.func15, Tryz.ntmps15
    go_wp2_with fail
    go_ret
    exact ⟨rfl, hBx.out⟩
  have d3 : decide (wt < 1) = false := decide_eq_false hd3
  by_cases hd4 : 1024 < wt
  · have d4 : decide (1024 < wt) = true := decide_eq_true hd4
    go_enter Tryz.func15, Tryz.ntmps15
    go_wp2_with fail
    go_ret
    exact ⟨rfl, hBx.out⟩
  have d4 : decide (1024 < wt) = false := decide_eq_false hd4
  have d5 : IntKind.i64.wrap (wt - 1) = wt - 1 := IntWalk.i64_in _ (by omega)
  have d6 : (Go.bits .and .i64 wt (wt - 1) != 0) = true := by
    rw [bne_iff_ne]
    intro h
    exact hno.out ⟨by show 1 ≤ id; omega, by show id ≤ _; omega, by show 1 ≤ wt; omega, by show wt ≤ _; omega, h⟩
  go_enter Tryz.func15, Tryz.ntmps15
  go_wp2_with fail
  go_ret
  exact ⟨rfl, hBx.out⟩
theorem traceCheck_any (t : TraceD) (w : World) (ht : t.Lies w) :
    Calls Tryz.prog 15 #[.agg t.cells.toArray] w fun e w' => e = .returned (.int .i64 (traceErr t)) ∧ Below w.heap.size w w' := by
  unfold traceErr
  by_cases h : traceOk t
  · rw [if_pos h]; exact traceCheck_ok t w h ht
  · rw [if_neg h]; exact traceCheck_bad t w h
/-- The spans of a trace in order are in order, and of the trace. -/
theorem traceErr_zero {t : TraceD} (h : traceErr t = 0) : traceOk t ∧ ∀ x ∈ t.spans, spanErr x = 0 ∧ x.trace = t.id := by
  unfold traceErr at h
  split at h
  · rename_i h1
    refine ⟨h1, fun x hx => ?_⟩
    have := firstErr_zero h x hx
    unfold memErr at this
    split at this
    · contradiction
    · rename_i h2
      split at this
      · cases this
      · rename_i h3
        exact ⟨by simpa using h2, by simpa using h3⟩
  · cases h
theorem TraceD.Lies.held_ok {w : World} {t : TraceD} (h : t.Lies w) (k : traceErr t = 0) : t.Held w := h.toHeld fun x hx => spanErr_small ((traceErr_zero k).2 x hx).1
end Go.Proofs.YtnddlpfmagdbfaaGreatDoor
/- Contract: sampling.Exponent. -/
namespace Go.Proofs.YtnddlpfmagdbfaaGreatDoor
open Go Go.Proofs Go.RowKit
set_option linter.unusedVariables false
set_option linter.unusedSimpArgs false
/-- The exponent, and the error. -/
def exponentX (n : Nat) (p : PolD) (t : TraceD) : Int × Int := if polErr n p ≠ 0 then (0, polErr n p) else if traceErr t ≠ 0 then (0, traceErr t) else (givenX n p t, 0)
set_option maxHeartbeats 8000000 in
set_option maxRecDepth 20000 in
theorem exponent_any (n : Nat) (p : PolD) (t : TraceD) (w : World) (hp : p.Lies n w) (hstr : ∀ q ∈ p.rules, PredStr n q.p) (ht : t.Lies w) :
    Calls Tryz.prog 12 #[.agg p.cells.toArray, .agg t.cells.toArray] w fun e w' => e = .returned (.tuple #[.int .i64 (exponentX n p t).1, .int .i64 (exponentX n p t).2]) ∧ Below w.heap.size w w' := by
  have hB := Lib.hid (((Below.refl _ w).alloc (Nat.le_refl _) (.cells p.cells.toArray 24)).alloc (by simp) (.cells t.cells.toArray 27))
  have hPB := Lib.hid ((Grew.alloc (w.alloc (.cells p.cells.toArray 24)) (.cells t.cells.toArray 27)).blk (blk_new w p.cells.toArray 24))
  have hTB := Lib.hid (blk_new' (w.alloc (.cells p.cells.toArray 24)) t.cells.toArray 27 (w.heap.size + 1) (by simp))
  have hc1 := Lib.hid (fun W (h : Below w.heap.size w W) => polCheck_any n p W (hp.below h) hstr)
  have hc2 := Lib.hid (fun W (h : Below w.heap.size w W) => traceCheck_any t W (ht.below h))
  have hc3 := Lib.hid (fun (hp0 : polErr n p = 0) (h0 : traceErr t = 0) W (h : Below w.heap.size w W) => given_any n p t W ((hp.held_ok hp0).below h) ((ht.held_ok h0).below h))
  clear hp ht hstr
  unfold exponentX
  generalize polErr n p = e1 at *
  generalize traceErr t = e2 at *
  generalize givenX n p t = g at *
  unfold PolD.cells at hB hPB hTB hc1 hc3 ⊢
  unfold TraceD.cells at hB hPB hTB hc2 hc3 ⊢
  by_cases h1 : e1 = 0
  · have h1' : (e1 != 0) = false := by rw [h1]; rfl
    rw [if_neg (by simpa using h1)]
    have h1z := Lib.hid h1
    clear h1
    by_cases h2 : e2 = 0
    · have h2' : (e2 != 0) = false := by rw [h2]; rfl
      rw [if_neg (by simpa using h2)]
      have hc3 := Lib.hid (hc3.out h1z.out h2)
      clear h2
      go_enter Tryz.func12, Tryz.ntmps12
      go_wp2_with (first
        | (go_at_call 14; (with_reducible refine (hc1.out _ hB.out).mono ?_); rintro e w1 ⟨rfl, k1⟩; have b1 := Lib.hid (hB.out.trans (k1.mono hB.out.size)); have q1 := Lib.hid (blk_keep k1 hPB.out); have q2 := blk_keep k1 hTB.out; have t0 : w1.cell? ⟨w.heap.size + 1, 0, none⟩ = some (.int .i64 t.id) := cell_blk q2 0 rfl; have t1 : w1.cell? ⟨w.heap.size + 1, 1, none⟩ = some (.int .i64 t.weight) := cell_blk q2 1 rfl; have t2 : w1.cell? ⟨w.heap.size + 1, 2, none⟩ = some (.slice t.A t.spans.length t.c) := cell_blk q2 2 rfl; have q2 := Lib.hid q2; clear k1)
        | (go_at_call 15; (with_reducible refine (hc2.out _ b1.out).mono ?_); rintro e w2 ⟨rfl, k2⟩; have b2 := Lib.hid (b1.out.trans (k2.mono b1.out.size)); have r1 := blk_keep k2 q1.out; have r2 := blk_keep k2 q2.out; have s0 : w2.cell? ⟨w.heap.size + 1, 0, none⟩ = some (.int .i64 t.id) := cell_blk r2 0 rfl; have s1 : w2.cell? ⟨w.heap.size + 1, 1, none⟩ = some (.int .i64 t.weight) := cell_blk r2 1 rfl; have s2 : w2.cell? ⟨w.heap.size + 1, 2, none⟩ = some (.slice t.A t.spans.length t.c) := cell_blk r2 2 rfl; have u0 : w2.cell? ⟨w.heap.size, 0, none⟩ = some (.slice p.A p.rules.length p.c) := cell_blk r1 0 rfl; have u1 : w2.cell? ⟨w.heap.size, 1, none⟩ = some (.int .i64 p.d) := cell_blk r1 1 rfl; clear r1 r2 k2 t0 t1 t2)
        | (go_at_call 27; (with_reducible refine (hc3.out _ b2.out).mono ?_); rintro e w3 ⟨rfl, k3⟩; have b3 := Lib.hid (b2.out.trans (k3.mono b2.out.size)); clear k3))
      go_ret2
      exact ⟨rfl, b3.out⟩
    · have h2' : (e2 != 0) = true := by rw [bne_iff_ne]; exact h2
      rw [if_pos (by simpa using h2)]
      clear h2
      go_enter Tryz.func12, Tryz.ntmps12
      go_wp2_with (first
        | (go_at_call 14; (with_reducible refine (hc1.out _ hB.out).mono ?_); rintro e w1 ⟨rfl, k1⟩; have b1 := Lib.hid (hB.out.trans (k1.mono hB.out.size)); have q2 := blk_keep k1 hTB.out; have t0 : w1.cell? ⟨w.heap.size + 1, 0, none⟩ = some (.int .i64 t.id) := cell_blk q2 0 rfl; have t1 : w1.cell? ⟨w.heap.size + 1, 1, none⟩ = some (.int .i64 t.weight) := cell_blk q2 1 rfl; have t2 : w1.cell? ⟨w.heap.size + 1, 2, none⟩ = some (.slice t.A t.spans.length t.c) := cell_blk q2 2 rfl; have q2 := Lib.hid q2; clear k1)
        | (go_at_call 15; (with_reducible refine (hc2.out _ b1.out).mono ?_); rintro e w2 ⟨rfl, k2⟩; have b2 := Lib.hid (b1.out.trans (k2.mono b1.out.size)); clear k2))
      go_ret2
      exact ⟨rfl, b2.out⟩
  · have h1' : (e1 != 0) = true := by rw [bne_iff_ne]; exact h1
    rw [if_pos (by simpa using h1)]
    clear h1
    go_enter Tryz.func12, Tryz.ntmps12
    go_wp2_with (first
      | (go_at_call 14; (with_reducible refine (hc1.out _ hB.out).mono ?_); rintro e w1 ⟨rfl, k1⟩; have b1 := Lib.hid (hB.out.trans (k1.mono hB.out.size)); clear k1))
    go_ret2
    exact ⟨rfl, b1.out⟩
end Go.Proofs.YtnddlpfmagdbfaaGreatDoor
