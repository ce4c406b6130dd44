/- Arguments opened: arrays of two and of three whole numbers, by value. No conditions. -/
import Derived.OpenShut
import Derived.WideShapes
import Derived.Laws.IdiomArrays
namespace Go.Proofs.YtiooomoblgaghaaGreat
open Go.ChangeShapes Go.WideShapes
section
variable {H : Type} {enc : TypeId × Value → H} {P : Program} {w : World} {base : Nat} {spare : Nat → Bool} {held : Bool}

theorem okWide_array {r : Reach} {b0 n : Nat} {t e : TypeId} {v : Value} (ht : P.underlying t = some (.array n e)) (h : Value.okWide P w r b0 t v) : ∃ cs, v = .agg cs ∧ cs.size = P.cellsOf t := by
  simp only [Value.okWide, ht] at h
  obtain ⟨cs, h1, h2, _⟩ := h
  exact ⟨cs, h1, h2⟩

theorem open_arr3 {r : Reach} {b0 : Nat} {t e : TypeId} {k : IntKind} {v : Value} {d : DataW H} {ps : List MemPlace} (ht : P.underlying t = some (.array 3 e)) (he : P.underlying e = some (.int k)) (hce : P.cellsOf e = 1) (hct : P.cellsOf t = 3)
    (hv : Value.okWide P w r b0 t v) (h : DataW.Trod enc P w base spare held t v d ps) :
    ∃ a b c : Int, v = .agg #[.int k a, .int k b, .int k c] ∧ (Lit.int k a).wf = true ∧ (Lit.int k b).wf = true ∧ (Lit.int k c).wf = true := by
  obtain ⟨cs, rfl, hsz⟩ := okWide_array ht hv
  obtain ⟨l⟩ := cs
  match l, hsz.trans hct with
  | [c0, c1, c2], _ =>
    obtain ⟨fuel, hf⟩ := h
    obtain ⟨y0, y1, y2, n, _, h0, h1, h2⟩ := trod_array3 ht hce hf
    obtain ⟨a, ha, _, wa⟩ := DataW.trod_int he h0
    obtain ⟨b, hb, _, wb⟩ := DataW.trod_int he h1
    obtain ⟨c, hc, _, wc⟩ := DataW.trod_int he h2
    simp only [List.cons.injEq, and_true] at ha hb hc
    subst ha hb hc
    exact ⟨a, b, c, rfl, wa, wb, wc⟩

theorem trod_array2 {t e : TypeId} {fuel : Nat} {c0 c1 : Value} {x : DataW H × List MemPlace} (ht : P.underlying t = some (.array 2 e)) (hce : P.cellsOf e = 1)
    (h : DataW.trod enc P w base spare held fuel t [c0, c1] = some x) :
    ∃ y0 y1 n, DataW.trod enc P w base spare held n e [c0] = some y0 ∧ DataW.trod enc P w base spare held n e [c1] = some y1 := by
  obtain ⟨xs, m, _, _, _, hl, hg⟩ := DataW.trod_array ht h
  have h0 := hg 0 (by omega)
  have h1 := hg 1 (by omega)
  rw [hce] at h0 h1
  match xs, hl with
  | [y0, y1], _ => exact ⟨y0, y1, m, h0, h1⟩

theorem open_arr2 {r : Reach} {b0 : Nat} {t e : TypeId} {k : IntKind} {v : Value} {d : DataW H} {ps : List MemPlace} (ht : P.underlying t = some (.array 2 e)) (he : P.underlying e = some (.int k)) (hce : P.cellsOf e = 1) (hct : P.cellsOf t = 2)
    (hv : Value.okWide P w r b0 t v) (h : DataW.Trod enc P w base spare held t v d ps) :
    ∃ a b : Int, v = .agg #[.int k a, .int k b] ∧ (Lit.int k a).wf = true ∧ (Lit.int k b).wf = true := by
  obtain ⟨cs, rfl, hsz⟩ := okWide_array ht hv
  obtain ⟨l⟩ := cs
  match l, hsz.trans hct with
  | [c0, c1], _ =>
    obtain ⟨fuel, hf⟩ := h
    obtain ⟨y0, y1, n, h0, h1⟩ := trod_array2 ht hce hf
    obtain ⟨a, ha, _, wa⟩ := DataW.trod_int he h0
    obtain ⟨b, hb, _, wb⟩ := DataW.trod_int he h1
    simp only [List.cons.injEq, and_true] at ha hb
    subst ha hb
    exact ⟨a, b, rfl, wa, wb⟩
end
end Go.Proofs.YtiooomoblgaghaaGreat
