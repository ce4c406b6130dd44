/- A region that draws its order, by one relation over what has come up; blocks that are known whole. -/
import Derived.Test.YtmhmnbaoanennaaGreatDoorShort
import Derived.Deep.RegionHeld3
namespace Go.Proofs.YtmhmnbaoanennaaGreatDoor
open Go Go.Ev Go.Proofs Go.RowKit
set_option linter.unusedVariables false
set_option linter.unusedSimpArgs false
/-- A region of which some operations have come up: whatever comes up next, the relation stays; at the end it gives what follows. -/
theorem wpAnyH_inv {P : Program} {md : Region.Mode} {ops : Array Oper} {Q : Exit → Act → World → Prop} {S : World → Prop} (I : (Nat → Prop) → Act → World → Prop)
    (hlex : ∀ i o, ops[i]? = some o → ∀ e ∈ o.after, Region.binds md e = true → e.on < i) (hS : ∀ L a w, I L a w → S w)
    (hstep : ∀ L a w i o, I L a w → ops[i]? = some o → ¬ L i → (∀ e ∈ o.after, Region.binds md e = true → L e.on) → wpOp P ops Q i (fun a' w' => I (fun j => L j ∨ j = i) a' w') a w)
    (hend : ∀ L a w, I L a w → (∀ i, i < ops.size → L i) → Q .normal a w) :
    ∀ (fuel : Nat) (l : Array Bool) (a : Act) (w : World), l.size = ops.size → l.toList.count false ≤ fuel → I (Listed l) a w → wpAnyH P md ops Q S fuel l a w := by
  have hall : ∀ (l : Array Bool), l.size = ops.size → Region.ready md ops l = [] → ∀ i, i < ops.size → Listed l i := by
    intro l hl hr i
    induction i using Nat.strongRecOn with
    | _ i ih =>
      intro hi
      by_cases h : Listed l i
      · exact h
      · exfalso
        have hm : i ∈ Region.ready md ops l := mem_ready.2 ⟨by rw [getD_tf (by omega)]; unfold Listed at h; simpa using h, ops[i], by simp [hi], fun e he hb => ih e.on (hlex i ops[i] (by simp [hi]) e he hb) (by have := hlex i ops[i] (by simp [hi]) e he hb; omega)⟩
        rw [hr] at hm
        cases hm
  intro fuel
  induction fuel with
  | zero =>
    intro l a w hl hc hI
    have hr : Region.ready md ops l = [] := by
      apply List.eq_nil_iff_forall_not_mem.2
      intro i hi
      obtain ⟨h1, o, ho, _⟩ := mem_ready.1 hi
      have hil : i < l.size := by
        have := (Array.getElem?_eq_some_iff.1 ho).1
        omega
      have := count_set hil (by rw [← getD_tf hil]; exact h1)
      omega
    exact ⟨hr, hend _ _ _ hI (hall l hl hr)⟩
  | succ fuel ih =>
    intro l a w hl hc hI
    refine ⟨fun hr => hend _ _ _ hI (hall l hl hr), fun i hi => ?_⟩
    obtain ⟨h1, o, ho, h2⟩ := mem_ready.1 hi
    have hil : i < l.size := by
      have := (Array.getElem?_eq_some_iff.1 ho).1
      omega
    have h3 : l.getD i false = false := by rw [← getD_tf hil]; exact h1
    have hcs := count_set hil h3
    refine wpOp_mono (fun a' w' hI' => ?_) (hstep (Listed l) a w i o hI ho (by unfold Listed; rw [h3]; simp) h2)
    rw [← Listed.set hil] at hI'
    exact ⟨hS _ _ _ hI', ih _ a' w' (by simpa using hl) (by omega) hI'⟩
/-- Each operation waits for elder ones alone. -/
def lexAfter (md : Region.Mode) (ops : Array Oper) : Bool := (List.range ops.size).all fun i => ((ops[i]?).map fun o : Oper => o.after.all fun e => !Region.binds md e || Nat.blt e.on i).getD true
theorem lexAfter_spec {md : Region.Mode} {ops : Array Oper} (h : lexAfter md ops = true) : ∀ i o, ops[i]? = some o → ∀ e ∈ o.after, Region.binds md e = true → e.on < i := by
  intro i o ho e he hb
  have hi : i < ops.size := (Array.getElem?_eq_some_iff.1 ho).1
  have h1 := List.all_eq_true.1 h i (List.mem_range.2 hi)
  rw [ho, Option.map_some, Option.getD_some, Array.all_eq_true_iff_forall_mem] at h1
  have h2 := h1 e he
  rw [hb] at h2
  simpa using h2
/-- The same, where R is what has not come up yet; the relation is told the state at the beginning. -/
theorem wpAnyH_rest {P : Program} {md : Region.Mode} {ops : Array Oper} {Q : Exit → Act → World → Prop} {S : World → Prop} {l0 : Array Bool} {a0 : Act} {w0 : World} {fuel : Nat} (R : List Nat) (I : Act → (Nat → Prop) → Act → World → Prop)
    (hlex : lexAfter md ops = true) (hsz : l0.size = ops.size) (hf : Nat.ble (l0.toList.count false) fuel = true) (hR : ((List.range ops.size).all fun i => l0.getD i false || R.contains i) = true) (hR2 : (R.all fun i => Nat.blt i ops.size && !l0.getD i false) = true)
    (h0 : ∀ L : Nat → Prop, (∀ i ∈ R, ¬ L i) → I a0 L a0 w0) (hS : ∀ L a w, I a0 L a w → S w)
    (hstep : ∀ i ∈ R, ∀ L a w o, I a0 L a w → ops[i]? = some o → ¬ L i → (∀ e ∈ o.after, Region.binds md e = true → e.on ∈ R → L e.on) → wpOp P ops Q i (fun a' w' => I a0 (fun j => L j ∨ j = i) a' w') a w)
    (hend : ∀ L a w, I a0 L a w → (∀ i ∈ R, L i) → Q .normal a w) : wpAnyH P md ops Q S fuel l0 a0 w0 := by
  have hin : ∀ i, i < ops.size → l0.getD i false = true ∨ i ∈ R := fun i hi => by
    have := List.all_eq_true.1 hR i (List.mem_range.2 hi)
    simpa using this
  refine wpAnyH_inv (fun L a w => (∀ i, i < ops.size → l0.getD i false = true → L i) ∧ I a0 L a w) (lexAfter_spec hlex) (fun L a w h => hS L a w h.2)
    (fun L a w i o h ho hn hd => ?_) (fun L a w h ha => hend L a w h.2 fun i hi => ha i ?_) fuel l0 a0 w0 hsz (by simpa using hf) ⟨fun i _ hi => hi, h0 _ fun i hi hl => ?_⟩
  · have hi : i < ops.size := (Array.getElem?_eq_some_iff.1 ho).1
    have hiR : i ∈ R := (hin i hi).resolve_left fun h1 => hn (h.1 i hi h1)
    exact wpOp_mono (fun a' w' h' => ⟨fun j hj h1 => .inl (h.1 j hj h1), h'⟩) (hstep i hiR L a w o h.2 ho hn fun e he hb _ => hd e he hb)
  · have := List.all_eq_true.1 hR2 i hi
    rw [Bool.and_eq_true] at this
    exact Nat.blt_eq.mp this.1
  · have := List.all_eq_true.1 hR2 i hi
    rw [Bool.and_eq_true] at this
    unfold Listed at hl
    rw [hl] at this
    simp at this
theorem heap_alloc_old {W : World} {g : Nat} {o o' : Obj} (h : W.heap[g]? = some o) : (W.alloc o').heap[g]? = some o := by
  have hl : g < W.heap.size := by
    rcases Nat.lt_or_ge g W.heap.size with hl | hl
    · exact hl
    · rw [Array.getElem?_eq_none hl] at h; cases h
  exact ((below_alloc W o').block g hl).trans h
theorem cell_blk {W : World} {g : Nat} {cs : Array Value} {t : TypeId} {f : Nat × Nat} (h : W.heap[g]? = some (.cells cs t f)) (i : Nat) {v : Value} (hv : cs[i]? = some v) : W.cell? ⟨g, i, none⟩ = some v := by
  simp only [World.cell?, h]
  exact hv
theorem frozen_blk {W : World} {g : Nat} {cs : Array Value} {t : TypeId} (h : W.heap[g]? = some (.cells cs t (0, 0))) (i : Nat) : W.frozen? ⟨g, i, none⟩ = false := by
  simp only [World.frozen?, h]
  simp
theorem blk_lt {W : World} {g : Nat} {o : Obj} (h : W.heap[g]? = some o) : g < W.heap.size := by
  rcases Nat.lt_or_ge g W.heap.size with hl | hl
  · exact hl
  · rw [Array.getElem?_eq_none hl] at h; cases h
theorem blk_keep {W W' : World} {g : Nat} {o : Obj} (k : Below W.heap.size W W') (h : W.heap[g]? = some o) : W'.heap[g]? = some o := (k.block _ (blk_lt h)).trans h
theorem below_drew (w : World) : Below w.heap.size w w.drew := ⟨rfl, rfl, rfl, Nat.le_refl _, fun _ _ => rfl⟩
theorem below_drewN0 (w : World) (n : Nat) : Below w.heap.size w (w.drewN n) := ⟨rfl, rfl, rfl, Nat.le_refl _, fun _ _ => rfl⟩
/-- A block that is written whole. -/
theorem blk_setCells (g : Nat) (t : TypeId) : ∀ (vs : List Value) (o : Nat) (W : World) (cs : Array Value), W.heap[g]? = some (.cells cs t (0, 0)) → o + vs.length = cs.size → (W.setCells g o vs).heap[g]? = some (.cells ((cs.toList.take o) ++ vs).toArray t (0, 0))
  | [], o, W, cs, h, hl => by
    simp only [World.setCells]
    have e : (cs.toList.take o ++ []).toArray = cs := by
      rw [List.append_nil, List.take_of_length_le (by simp at hl ⊢; omega)]
    rw [e]; exact h
  | v :: vs, o, W, cs, h, hl => by
    simp only [World.setCells]
    simp only [List.length_cons] at hl
    have h2 := heap_setCell_same W g o cs t v h
    rw [blk_setCells g t vs (o + 1) _ _ h2 (by simp; omega)]
    have e : (cs.setIfInBounds o v).toList.take (o + 1) = cs.toList.take o ++ [v] := by
      rw [Array.toList_setIfInBounds, List.take_succ_eq_append_getElem (by simp; omega), List.getElem_set_self, List.take_set_of_le (Nat.le_refl _)]
    rw [e, List.append_assoc]; rfl
theorem heap_setCells_other (g : Nat) : ∀ (vs : List Value) (o : Nat) (W : World) (k : Nat), k ≠ g → (W.setCells g o vs).heap[k]? = W.heap[k]?
  | [], _, _, _, _ => rfl
  | v :: vs, o, W, k, h => by
    simp only [World.setCells]
    rw [heap_setCells_other g vs (o + 1) _ k h]
    exact heap_setCell_other W ⟨g, o, none⟩ k v h
theorem below_setCells {base : Nat} {w : World} (g : Nat) (hg : base ≤ g) : ∀ (vs : List Value) (o : Nat) (W : World), Below base w W → Below base w (W.setCells g o vs)
  | [], _, _, h => h
  | v :: vs, o, W, h => by
    simp only [World.setCells]
    exact below_setCells g hg vs (o + 1) _ (h.setCell hg _)
theorem there_blk {W : World} {g : Nat} {cs : Array Value} {t : TypeId} (h : W.heap[g]? = some (.cells cs t (0, 0))) {n : Nat} (hn : n = cs.size) : W.there g 0 n := fun j hj => by
  rw [Nat.zero_add]
  exact ⟨by rw [cell_blk h j (v := cs[j]'(by omega)) (by simp [show j < cs.size by omega])]; rfl, frozen_blk h j⟩
end Go.Proofs.YtmhmnbaoanennaaGreatDoor
