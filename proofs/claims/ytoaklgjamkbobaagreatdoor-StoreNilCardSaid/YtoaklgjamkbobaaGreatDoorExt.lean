/- Contracts for the evaluator: a map's clone. -/
import Derived.Test.YtoaklgjamkbobaaGreatDoorProg
import Derived.Test.YtoaklgjamkbobaaGreatDoorEvC
import Derived.KernelRfl
import Derived.WalkKit
import Derived.Shelf.Lay
import Derived.Shelf.SlMaps.Clone
set_option linter.unusedVariables false
namespace Go.Proofs
open Go.Shelf
shelf_lay_g SlLaysW.n5 Slmc 5 at Tryz 80 as Tryz.clone80
shelf_lay_g SlLaysW.n5 Slmc 5 at Tryz 81 as Tryz.clone81
shelf_lay_g SlLaysW.n5 Slmc 5 at Tryz 165 as Tryz.clone165
shelf_lay_g SlLaysW.n5 Slmc 5 at Tryz 166 as Tryz.clone166
end Go.Proofs
namespace Go.Proofs.YtoaklgjamkbobaaGreatDoor
open Go Go.Ev Go.Proofs Go.RowKit Go.Shelf
set_option maxRecDepth 100000

/-- A map's clone. -/
noncomputable def cloneG (args : List Value) (h : Hp) : Option (Value × Hp) :=
  match args with
  | [.map none] => some (.map none, h)
  | [.map (some r)] => match h.get r with
    | some (.map es c) => some (.map (some h.next), h.new (.map es c))
    | _ => none
  | _ => none
theorem cloneG_ok {P : Program} {ρ : Ren} (L : SlLaysW.n5 P ρ) {args : List Value} {h h' : Hp} {v : Value} (hg : cloneG args h = some (v, h')) (e : Env) (w : World) (args' : List Value) (r : Rel P h e w) (ha : RL h.next e args args') :
    CallsTo P (ρ.f 5) args' h e w v h' := by
  unfold cloneG at hg
  split at hg
  · cases hg
    have h1 := ha.2
    simp [conc] at h1
    subst h1
    refine Calls.mono (AnyW.maps_Clone_nil L w) ?_
    rintro en w' ⟨rfl, rfl⟩
    exact ⟨e, _, rfl, r, Stp.refl _ _ _, ⟨by simp [Ev.under], by simp [conc]⟩⟩
  · rename_i b
    split at hg
    · rename_i es c hb
      cases hg
      have h1 := ha.2
      simp [conc] at h1
      subst h1
      obtain ⟨hlt, es', hw, hes⟩ := r.lies b _ hb
      refine Calls.mono (AnyW.maps_Clone L (e.phi b) es' c w hw) ?_
      rintro en w' ⟨rfl, rfl⟩
      obtain ⟨h1, h2⟩ := r.new (w' := World.alloc w (.map es' c)) (.map es c) (.map es' c) 0 rfl
        ⟨es', by rw [Env.ext_phi]; show (w.heap.push _)[w.heap.size]? = _; exact Array.getElem?_push_size, hes.mono (Nat.le_succ _) (e.ext_agree h.next w.heap.size 0)⟩
      exact ⟨_, _, rfl, h1, h2, ⟨by simp [Ev.under], by simp [conc]⟩⟩
    · cases hg
  · cases hg
/-- The functions that are not run, but known. -/
noncomputable def ext1 : Ext := fun f => bif Nat.beq f 80 || Nat.beq f 81 || Nat.beq f 165 || Nat.beq f 166 then some cloneG else none
theorem ext1_ok : ExtOK Tryz.prog ext1 := by
  intro f g hg
  unfold ext1 at hg
  cases hf : (Nat.beq f 80 || Nat.beq f 81 || Nat.beq f 165 || Nat.beq f 166) with
  | false => rw [hf] at hg; cases hg
  | true =>
    rw [hf] at hg
    cases hg
    rw [Bool.or_eq_true, Bool.or_eq_true, Bool.or_eq_true] at hf
    rcases hf with ((hf | hf) | hf) | hf
    · have := Nat.eq_of_beq_eq_true hf
      subst this
      exact ⟨⟨_, _, Tryz.func80, rfl, by decide⟩, fun args h v h' hg e w args' r ha => cloneG_ok Tryz.clone80 hg e w args' r ha⟩
    · have := Nat.eq_of_beq_eq_true hf
      subst this
      exact ⟨⟨_, _, Tryz.func81, rfl, by decide⟩, fun args h v h' hg e w args' r ha => cloneG_ok Tryz.clone81 hg e w args' r ha⟩
    · have := Nat.eq_of_beq_eq_true hf
      subst this
      exact ⟨⟨_, _, Tryz.func165, rfl, by decide⟩, fun args h v h' hg e w args' r ha => cloneG_ok Tryz.clone165 hg e w args' r ha⟩
    · have := Nat.eq_of_beq_eq_true hf
      subst this
      exact ⟨⟨_, _, Tryz.func166, rfl, by decide⟩, fun args h v h' hg e w args' r ha => cloneG_ok Tryz.clone166 hg e w args' r ha⟩
end Go.Proofs.YtoaklgjamkbobaaGreatDoor
