/- The row and the tied card of the law RetentionNil: for every input it returns true, and the input reads as it did. Condition of the row: the two tables of math/bits read as the program lays them, which the card ties to its text. -/
import Derived.Test.YtmhmnbaoanennaaGreatDoorRows
import Derived.Test.YtmhmnbaoanennaaGreatDoorFactsNil
import Derived.Test.YtmhmnbaoanennaaGreatDoorCards
import Derived.Test.YtmhmnbaoanennaaGreatDoorTie
import Derived.Test.YtmhmnbaoanennaaGreatDoorLaid
import Derived.Test.YtmhmnbaoanennaaGreatDoorNilLaw
import Derived.Test.YtmhmnbaoanennaaGreatDoorSpans
import Derived.Test.YtmhmnbaoanennaaGreatDoorOpenS
import Derived.WalkKit
import Derived.ProofKit
import Derived.OpenShut
import Derived.LaidMore
import Derived.ChangeOld
import Derived.Below
import Derived.SizedLaws
import Derived.SevenTiedAt
namespace Go.Proofs.YtmhmnbaoanennaaGreatDoor.retentionNil
open Go Go.Ev Go.ChangeShapes Go.WideShapes Go.ChangeAt Go.RowKit
set_option linter.unusedVariables false
set_option maxRecDepth 100000 in
theorem lifted (os : Os) (started : os.Started) (H : Type) (enc : TypeId × Value → H) :
    ReturnsInHanded {} Tryz.checked os 12 .any (fun w args => (Rows.retentionNilSpec.pre enc Tryz.prog Tryz.f12 [] false w args ∧ laidMetH Tryz.prog laid2 w) ∧ sizedMet enc Tryz.prog Tryz.f12 (OpenSpec.ofChange Rows.retentionNilSpec) false w args)
      (Rows.retentionNilSpec.post enc Tryz.prog Tryz.f12 false true false false) := by
  refine returnsInHanded_of_change_and (C := Tryz.checked) (X := fun w _ => laidMetH Tryz.prog laid2 w) (fun _ _ _ hh h => h.of_heap hh) own started (by kernel_rfl) Tryz.func12
    (ChangeSpec.witness_shaped (enc := enc) (C := Tryz.checked) (os := os) (X := fun w _ => laidMetH Tryz.prog laid2 w) false (World.doorLaid Tryz.prog 19 os) #[.int .i64 0, .agg #[.slice none 0 0, .int .i8 0, .int .i8 0, .int .i8 0, .int .i8 0, .slice none 0 0, .int .u8 0]] 8 rfl (World.shaped_of_RefB (by kernel_rfl) (by kernel_rfl)) (by kernel_rfl) (by kernel_rfl) (by kernel_rfl) (door_met os _)) ?_
  intro W base args ds gs before hval0 hW _ hsz0 hL _
  have hsz : (DataW.weightsEach Tryz.prog (Tryz.f12.params.toList ++ Rows.retentionNilSpec.plain.varTypes Tryz.prog) (ds ++ gs)).all (· ≤ reachBytes) = true := hsz0
  have hval : ∀ (j : Nat) t v, Tryz.f12.params[j]? = some t → args[j]? = some v → Value.okWide Tryz.prog W .any base t v := hval0
  have hW' := hW
  obtain ⟨p, q, hA0, hV, rfl, hfz, hnd⟩ := hW
  have hA : DataW.TrodAll enc Tryz.prog W 0 (fun _ => true) true Tryz.f12.params.toList args.toList ds p := hA0
  rw [Tryz.params12] at hA hval hsz
  obtain ⟨v0, vs0, d0, ds0, p0, q0, hargs, rfl, rfl, h0, r0⟩ := trodAll_cons hA
  obtain ⟨v1, vs1, d1, ds1, p1, q1, rfl, rfl, rfl, h1, r1⟩ := trodAll_cons r0
  obtain ⟨rfl, rfl, rfl⟩ := trodAll_nil r1
  obtain rfl : args = #[v0, v1] := by cases args; simp_all
  obtain ⟨rfl, rfl⟩ := trodVars_none hV
  have k0 := h0
  have lt0 : ∀ x ∈ p0, x.block < W.heap.size := by obtain ⟨m, hm⟩ := k0; exact DataW.trod_lt m _ _ _ hm
  have k1 := h1
  have lt1 : ∀ x ∈ p1, x.block < W.heap.size := by obtain ⟨m, hm⟩ := k1; exact DataW.trod_lt m _ _ _ hm
  obtain ⟨kk, rfl, _⟩ := ok_intCell Tryz.underlying3 (by have := hval 0 3 v0 rfl rfl; simpa [Value.okWide, Tryz.underlying3] using this)
  obtain ⟨a, ts, c, o0, o1, o2, o3, b, m, d, q, rfl, htr, hlen, hml, hcl, hq⟩ := open_story (hval 1 53 v1 rfl rfl) h1
  obtain ⟨ty, hG⟩ := laid_gl hL
  clear hA0 hval0
  refine (retNil_walk kk a ts c o0 o1 o2 o3 b m d q W htr hlen hml hcl (fun r1 r3 W2 hb => (spans_any a ts c o0 o1 o2 o3 b m d q hq W2 (htr.below hb) r3 r1).mono fun e W' h => ⟨let ⟨a', n, c', h1, _⟩ := h.1; ⟨a', n, c', h1⟩, h.2⟩) ty hG).mono fun e W' ⟨he, bel⟩ => ?_
  subst he
  exact ⟨_, rfl, _, _, _, [], _, [], hW', trodAll_mk1 (shut_bool Tryz.underlying4 _), (trodAll_cons_mk (Below.trod laidOut (by kernel_rfl) (of_decide_eq_true (by kernel_rfl)) k0 bel lt0) (trodAll_cons_mk (Below.trod laidOut (by kernel_rfl) (of_decide_eq_true (by kernel_rfl)) k1 bel lt1) trodAll_mk0)), rfl, bel.frame _, fun h => by cases h⟩
theorem over : Rows.RetentionNilSaid :=
  OpenClaim.holds_of_wide 12 Tryz.f12 rfl rfl rfl rfl rfl rfl rfl ⟨rfl, rfl, rfl, rfl, rfl⟩ rfl rfl rfl rfl rfl (by kernel_rfl) Tryz.func12 facts
    (of_decide_eq_true (by kernel_rfl)) (by unfold Func.isWrapper; first | (rw [if_pos (by decide +kernel)]; kernel_rfl) | (rw [if_neg (by decide +kernel)]; exact ⟨rfl, rfl⟩))
    (fun os started H enc _ => lifted os started H enc)
end Go.Proofs.YtmhmnbaoanennaaGreatDoor.retentionNil
namespace Go.Proofs.YtmhmnbaoanennaaGreatDoor
/-- The tied card, under a short name, for the claim. -/
theorem retentionNil_holds : Rows.RetentionNilCardSaid :=
  Claim7.holds_tied_plain_at .later [] [.data, .data] true (true, "416917e83ea02b7a503e32e9a256791b3e6d2c3e2dbf077a7fe906f10e14e473") true
    retentionNil.over (fun _ h => by cases h) (by kernel_rfl) (fun _ h => by cases h) retentionNil_row_tie rfl ⟨rfl, rfl⟩ (by kernel_rfl) rfl
    (fun f fn hf hfn => by
      obtain rfl : f = 12 := Option.some.inj ((show Tryz.prog.funcNamed "sleuth/sleuthlaw33.RetentionNil" = some 12 by kernel_rfl).symm.trans hf) |>.symm
      obtain rfl : fn = Tryz.f12 := (Option.some.inj (Tryz.func12.symm.trans hfn)).symm
      exact ⟨by kernel_rfl, fun j t ht => by
        rw [Tryz.params12] at ht
        have hm : t ∈ [3, 53] := by simpa using Array.mem_of_getElem? ht
        have hall : ([3, 53].all fun u => !Tryz.prog.wantsStandIn u) = true := by kernel_rfl
        exact (show Tryz.prog.wantsStandIn t = false by simpa using List.all_eq_true.1 hall t hm)⟩)
    (by kernel_rfl)
#print axioms retentionNil_holds
end Go.Proofs.YtmhmnbaoanennaaGreatDoor
