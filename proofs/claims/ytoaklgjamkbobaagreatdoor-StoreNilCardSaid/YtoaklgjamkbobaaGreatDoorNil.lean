/- The evaluator says true of the law StoreNil, for ages that are in order and for others: the ages stand as marks. -/
import Derived.Test.YtoaklgjamkbobaaGreatDoorKnL
import Derived.Test.YtoaklgjamkbobaaGreatDoorCheck
set_option linter.unusedVariables false
namespace Go.Proofs.YtoaklgjamkbobaaGreatDoor
open Go Go.Ev Go.Proofs Go.RowKit
set_option maxRecDepth 100000
theorem bytes_eq {a b : ByteArray} (h : eqBL a.data.toList b.data.toList = true) : a = b := by
  rw [eqBL_eq] at h
  have h := eq_of_beq h
  cases a; cases b
  simp only at h
  congr
  exact Array.toList_inj.1 h
theorem parseG_ok {args : List Value} {h h' : Hp} {v : Value} (hg : parseG args h = some (v, h')) (e : Env) (w : World) (args' : List Value) (r : Rel Tryz.prog h e w) (ha : RL h.next e args args') : CallsTo Tryz.prog 61 args' h e w v h' := by
  unfold parseG at hg
  split at hg
  · rename_i a s
    split at hg
    · rename_i n hsp hrd
      cases hq : (eqBL n.data.toList sSpans.data.toList && eqBL s.data.toList sFile.data.toList) with
      | false => rw [hq] at hg; cases hg
      | true =>
        rw [hq, cond_true] at hg
        rw [Bool.and_eq_true] at hq
        have e1 := bytes_eq hq.1
        have e2 := bytes_eq hq.2
        subst e1 e2
        cases hg
        have h1 := ha.2
        simp [conc] at h1
        subst h1
        obtain ⟨v', hc, hv, _⟩ := rd1_ok r hrd
        have hv' : v' = .string sSpans := by have := hv.eq; simpa [conc] using this
        subst hv'
        rw [cA_none (by rfl)] at hc
        refine Calls.mono (parse_any (cA e a) w ?_) ?_
        · rw [cA_none hsp]
          exact hc
        · rintro en w' ⟨rfl, hb⟩
          obtain ⟨r', s'⟩ := r.below hb
          exact ⟨e, _, rfl, r', s', ⟨by simp [Ev.under, underA, underL], by simp [conc, concA, concL]⟩⟩
    · cases hg
  · cases hg
theorem ext2_ok : ExtOK Tryz.prog ext2 := by
  intro f g hg
  unfold ext2 at hg
  cases hf : Nat.beq f 61 with
  | false => rw [hf, cond_false] at hg; exact ext1_ok f g hg
  | true =>
    rw [hf, cond_true] at hg
    cases hg
    have := Nat.eq_of_beq_eq_true hf
    subst this
    exact ⟨⟨_, _, Tryz.func61, rfl, by decide⟩, fun args h v h' hg e w args' r ha => parseG_ok hg e w args' r ha⟩
theorem callOK : CallOK Tryz.prog (evCall Tryz.prog ext2 3000) := evCall_ok mixed ext2_ok 3000
theorem gl_plain : plainG gl = true := by kernel_rfl
theorem known_calls (w : World) (ty : Nat → TypeId) (hl : laidG w ty gl) : Calls Tryz.prog 10 #[] w fun e w' => e = .returned (.bool true) ∧ Below w.heap.size w w' :=
  Leads.calls gl_plain Tryz.func10 (c := bodyOf Tryz.f10) (by kernel_rfl) (Leads.last mixed callOK (by kernel_rfl) (knLast ty)) w hl

/-- The error of ages that stand as marks. -/
noncomputable def checkG (args : List Value) (h : Hp) : Option (Value × Hp) :=
  match args with
  | [.agg ⟨[.complex k a _, .complex k' b _, .slice none l c, .int .i64 d, .int .i64 s]⟩] =>
    match k, a, k', b, l, c, d, s with
    | .f32, 0, .f32, 1, 0, 0, .ofNat 0, .ofNat 0 => some (.int .i64 0, h)
    | .f64, 0, .f64, 1, 0, 0, .ofNat 0, .ofNat 0 => some (.int .i64 2, h)
    | _, _, _, _, _, _, _, _ => none
  | _ => evCall Tryz.prog ext2 3000 (.func 11) args h
theorem checkG_ok {args : List Value} {h h' : Hp} {v : Value} (hg : checkG args h = some (v, h')) (e : Env) (w : World) (args' : List Value) (r : Rel Tryz.prog h e w) (ha : RL h.next e args args') : CallsTo Tryz.prog 11 args' h e w v h' := by
  unfold checkG at hg
  split at hg
  · split at hg
    · cases hg
      have h1 := ha.2
      simp [conc, concA, concL] at h1
      subst h1
      refine Calls.mono (check_any (e.at .f32 0) (e.at .f32 1) w) ?_
      rintro en w' ⟨rfl, hb⟩
      obtain ⟨r', s'⟩ := r.below hb
      refine ⟨e, _, rfl, r', s', ?_⟩
      have hp : okPair (e.at .f32 0, e.at .f32 1) = true := (e.iv true).2
      unfold errP
      rw [if_pos hp]
      exact RV.int
    · cases hg
      have h1 := ha.2
      simp [conc, concA, concL] at h1
      subst h1
      refine Calls.mono (check_any (e.at .f64 0) (e.at .f64 1) w) ?_
      rintro en w' ⟨rfl, hb⟩
      obtain ⟨r', s'⟩ := r.below hb
      refine ⟨e, _, rfl, r', s', ?_⟩
      have hp : okPair (e.at .f64 0, e.at .f64 1) = false := (e.iv false).2
      unfold errP
      rw [if_neg (by rw [hp]; decide)]
      exact RV.int
    · cases hg
  · exact (callOK.func _ _ _ _ _ hg).2 e w args' r ha
/-- What is known of the self-test, of ages, and of the other functions. -/
noncomputable def ext3 : Ext := fun f => bif Nat.beq f 10 then some (trueOf gl) else bif Nat.beq f 11 then some checkG else ext2 f
theorem ext3_ok : ExtOK Tryz.prog ext3 := by
  intro f g hg
  unfold ext3 at hg
  cases hf : Nat.beq f 10 with
  | true =>
    rw [hf, cond_true] at hg
    cases hg
    have := Nat.eq_of_beq_eq_true hf
    subst this
    exact trueOf_ok Tryz.func10 (c := bodyOf Tryz.f10) (by kernel_rfl) (by kernel_rfl) known_calls
  | false =>
    rw [hf, cond_false] at hg
    cases hf2 : Nat.beq f 11 with
    | false => rw [hf2, cond_false] at hg; exact ext2_ok f g hg
    | true =>
      rw [hf2, cond_true] at hg
      cases hg
      have := Nat.eq_of_beq_eq_true hf2
      subst this
      exact ⟨⟨_, _, Tryz.func11, rfl, by decide⟩, fun args h v h' hg e w args' r ha => checkG_ok hg e w args' r ha⟩
theorem says_ok (ty : Nat → TypeId) (n : Int) : isTrue (evCall Tryz.prog ext3 3000 (.func 3) [.complex .f32 0 0, .complex .f32 1 0, .int .i64 n] ⟨mkT (blksOf ty gl ++ []), 64, 64⟩) = true := by kernel_rfl
theorem says_bad (ty : Nat → TypeId) (n : Int) : isTrue (evCall Tryz.prog ext3 3000 (.func 3) [.complex .f64 0 0, .complex .f64 1 0, .int .i64 n] ⟨mkT (blksOf ty gl ++ []), 64, 64⟩) = true := by kernel_rfl
/-- The law StoreNil. -/
theorem nil_walk (x y n : Int) (w : World) (ty : Nat → TypeId) (hl : laidG w ty gl) :
    Calls Tryz.prog 3 #[.int .i64 x, .int .i64 y, .int .i64 n] w fun e w' => e = .returned (.bool true) ∧ Below w.heap.size w w' := by
  cases hp : okPair (x, y) with
  | true =>
    exact law_at gl_plain (evCall_ok mixed ext3_ok 3000) (e := { env0 with iv := fun b => match b with | true => ⟨(x, y), hp⟩ | false => iv0 false }) (args := [.complex .f32 0 0, .complex .f32 1 0, .int .i64 n]) (m := 64) (fun _ _ => rfl) (by decide)
      (RL.cons ⟨by simp [Ev.under], rfl⟩ (RL.cons ⟨by simp [Ev.under], rfl⟩ (RL.cons ⟨by simp [Ev.under], rfl⟩ RL.nil))) (says_ok ty n) w hl
  | false =>
    exact law_at gl_plain (evCall_ok mixed ext3_ok 3000) (e := { env0 with iv := fun b => match b with | true => iv0 true | false => ⟨(x, y), hp⟩ }) (args := [.complex .f64 0 0, .complex .f64 1 0, .int .i64 n]) (m := 64) (fun _ _ => rfl) (by decide)
      (RL.cons ⟨by simp [Ev.under], rfl⟩ (RL.cons ⟨by simp [Ev.under], rfl⟩ (RL.cons ⟨by simp [Ev.under], rfl⟩ RL.nil))) (says_bad ty n) w hl
end Go.Proofs.YtoaklgjamkbobaaGreatDoor
