/- The evaluator's regions, loops, ranges over functions and calls do in a world what they do in it. -/
import Derived.Test.YtnddlpfmagdbfaaGreatDoorEvB
import Derived.Below
set_option linter.unusedVariables false
set_option linter.unusedSimpArgs false
namespace Go.Ev
variable {P : Program}

theorem evD_trace {call : CallF} {all : List Oper} : ∀ (l : List DStep) (st st' : DS), evD P call all l st = some st' →
    ∃ tr : Nat → DS, tr 0 = st ∧ tr l.length = st' ∧ ∀ (i : Nat) (s : DStep), l[i]? = some s → stepD P call all s (tr i) = some (tr (i + 1))
  | [], st, st', h => by
    cases h
    exact ⟨fun _ => st, rfl, rfl, fun i s h => by simp at h⟩
  | s :: l, st, st', h => by
    have he : evD P call all (s :: l) st = match stepD P call all s st with | none => none | some st' => evD P call all l st' := rfl
    rw [he] at h
    split at h
    · cases h
    · rename_i st₁ hs
      obtain ⟨tr, h1, h2, h3⟩ := evD_trace l st₁ st' h
      refine ⟨fun i => match i with | 0 => st | i + 1 => tr i, rfl, h2, fun i x hx => ?_⟩
      cases i with
      | zero =>
        simp at hx
        subst hx
        show stepD P call all s st = some (tr 0)
        rw [hs, h1]
      | succ i => exact h3 i x (by simpa using hx)

/-- where the operation `i` looks -/
noncomputable def gOf (ms : List Nat) (tr : Nat → DS) (i : Nat) : Hp := back (MM ms i) (tr i).hist (tr i).cur
/-- the step of the operation `i` -/
noncomputable def stOf (ops : Array Oper) (ms : List Nat) (bn : List (Nat × Nat)) (i : Nat) (o : Oper) : DStep :=
  ⟨o, i, MM ms i, heapy o.op, barrier ops ms i, banOf ms i bn, bif looseO ops ms o i then ownOf i bn else none⟩

structure Fact (P : Program) (call : CallF) (ops : Array Oper) (ms : List Nat) (bn : List (Nat × Nat)) (tr : Nat → DS) (i : Nat) (o : Oper) (v : Value) : Prop where
  fr : (tr (i + 1)).fr = putT (tr i).fr o.dst v
  how : (wantedE ops.toList o (tr i).fr = some false ∧ v = undef ∧ backOk ops.toList (MM ms i) (tr i).hist = true ∧ floats ops.toList o = false ∧ (tr (i + 1)).cur = (tr i).cur ∧ (tr (i + 1)).hist = (tr i).hist) ∨
    (wantedE ops.toList o (tr i).fr = some true ∧
      ((floats ops.toList o = false ∧ ∃ h', evOp P call o (tr i).fr (viewD (stOf ops ms bn i o) (gOf ms tr i)) = some (v, h') ∧ backOk ops.toList (MM ms i) (tr i).hist = true ∧
        ((h'.next = (gOf ms tr i).next ∧ (heapy o.op = false ∨ barrier ops ms i = false) ∧ (tr (i + 1)).cur = (tr i).cur ∧ (tr (i + 1)).hist = (tr i).hist) ∨
         (heapy o.op = true ∧ isCur ops.toList (MM ms i) (tr i).hist = true ∧ banOf ms i bn = [] ∧ (tr (i + 1)).cur = ⟨h'.t, h'.next, (tr i).cur.low⟩ ∧ (tr (i + 1)).hist = (i, (tr i).cur) :: (tr i).hist))) ∨
       (∃ h', evOp P call o (tr i).fr (tr i).cur = some (v, h') ∧ (tr (i + 1)).cur = ⟨h'.t, h'.next, (tr i).cur.low⟩ ∧ (tr (i + 1)).hist = (i, (tr i).cur) :: (tr i).hist ∧
        ((floats ops.toList o = true ∧ calm (tr i).fr o.op = true ∧ noneIn (MM ms i) (tr i).hist = true) ∨
         (floats ops.toList o = false ∧ heapy o.op = true ∧ isCur ops.toList (MM ms i) (tr i).hist = true ∧ banOf ms i bn = [] ∧ ∃ t x y a, o.op = .store t x y ∧ look (tr i).fr x = some (.pointer (some a)) ∧ (stOf ops ms bn i o).own = some a.block)))))

theorem stepD_fact {call : CallF} {ops : Array Oper} {ms : List Nat} {bn : List (Nat × Nat)} {tr : Nat → DS} {i : Nat} {o : Oper}
    (h : stepD P call ops.toList (stOf ops ms bn i o) (tr i) = some (tr (i + 1))) : ∃ v, Fact P call ops ms bn tr i o v := by
  unfold stepD at h
  split at h
  · cases h
  · rename_i hw
    have hw : wantedE ops.toList o (tr i).fr = some false := hw
    have hfl : floats ops.toList o = false := by
      cases hf : floats ops.toList o with
      | false => rfl
      | true =>
        unfold floats at hf
        rw [Bool.and_eq_true] at hf
        unfold wantedE at hw
        cases hg : o.guard with
        | none => rw [hg] at hw; cases hw
        | some g => rw [hg] at hf; simp at hf
    have h : (bif backOk ops.toList (MM ms i) (tr i).hist then some (⟨putT (tr i).fr o.dst undef, (tr i).cur, (tr i).hist⟩ : DS) else none) = some (tr (i + 1)) := h
    cases hb : backOk ops.toList (MM ms i) (tr i).hist with
    | false => rw [hb] at h; cases h
    | true =>
      rw [hb] at h
      simp only [cond_true, Option.some.injEq] at h
      exact ⟨undef, by rw [← h], .inl ⟨hw, rfl, hb, hfl, by rw [← h], by rw [← h]⟩⟩
  · rename_i hw
    have hw : wantedE ops.toList o (tr i).fr = some true := hw
    cases hf : floats ops.toList o with
    | true =>
      have h : floatD P call (stOf ops ms bn i o) (tr i) = some (tr (i + 1)) := by
        have hf' : floats ops.toList (stOf ops ms bn i o).o = true := hf
        rw [hf'] at h
        exact h
      unfold floatD at h
      cases hcn : (calm (tr i).fr o.op && noneIn (MM ms i) (tr i).hist) with
      | false =>
        have hcn' : (calm (tr i).fr (stOf ops ms bn i o).o.op && noneIn (stOf ops ms bn i o).mask (tr i).hist) = false := hcn
        rw [hcn'] at h
        cases h
      | true =>
        have hcn' : (calm (tr i).fr (stOf ops ms bn i o).o.op && noneIn (stOf ops ms bn i o).mask (tr i).hist) = true := hcn
        rw [hcn', cond_true] at h
        rw [Bool.and_eq_true] at hcn
        split at h
        · cases h
        · rename_i v h' he
          simp only [Option.some.injEq] at h
          exact ⟨v, by rw [← h]; rfl, .inr ⟨hw, .inr ⟨h', he, by rw [← h], by rw [← h]; rfl, .inl ⟨hf, hcn⟩⟩⟩⟩
    | false =>
      have hf' : floats ops.toList (stOf ops ms bn i o).o = false := hf
      rw [hf', cond_false] at h
      split at h
      · rename_i b hown
        unfold looseD at h
        cases hd : ((stOf ops ms bn i o).heapy && isCur ops.toList (stOf ops ms bn i o).mask (tr i).hist && (stOf ops ms bn i o).ban.isEmpty) with
        | false => rw [hd] at h; cases h
        | true =>
          rw [hd, cond_true] at h
          rw [Bool.and_eq_true, Bool.and_eq_true] at hd
          split at h
          · rename_i t x y hop
            split at h
            · rename_i a hl
              cases hbb : Nat.beq a.block b with
              | false => rw [hbb] at h; cases h
              | true =>
                rw [hbb, cond_true] at h
                have hab := Nat.eq_of_beq_eq_true hbb
                split at h
                · cases h
                · rename_i v h' he
                  simp only [Option.some.injEq] at h
                  refine ⟨v, by rw [← h]; rfl, .inr ⟨hw, .inr ⟨h', he, by rw [← h], by rw [← h]; rfl, .inr ⟨hf, hd.1.1, hd.1.2, ?_, t, x, y, a, hop, hl, ?_⟩⟩⟩⟩
                  · exact List.isEmpty_iff.1 hd.2
                  · rw [hab]; exact hown
            · cases h
          · cases h
      · unfold runD doneD at h
        split at h
        · cases h
        · rename_i v h' he
          have he : evOp P call o (tr i).fr (viewD (stOf ops ms bn i o) (gOf ms tr i)) = some (v, h') := he
          cases hb : backOk ops.toList (MM ms i) (tr i).hist with
          | false =>
            have hb' : backOk ops.toList (stOf ops ms bn i o).mask (tr i).hist = false := hb
            rw [hb'] at h
            cases h
          | true =>
            have hb' : backOk ops.toList (stOf ops ms bn i o).mask (tr i).hist = true := hb
            rw [hb', cond_true] at h
            cases hc : ((not (stOf ops ms bn i o).heapy || not (stOf ops ms bn i o).barrier) && Nat.beq h'.next (back (stOf ops ms bn i o).mask (tr i).hist (tr i).cur).next) with
            | true =>
              rw [hc, cond_true, Option.some.injEq] at h
              rw [Bool.and_eq_true, Bool.or_eq_true] at hc
              refine ⟨v, by rw [← h]; rfl, .inr ⟨hw, .inl ⟨hf, h', he, hb, .inl ⟨Nat.eq_of_beq_eq_true hc.2, ?_, by rw [← h], by rw [← h]⟩⟩⟩⟩
              have h1 := hc.1
              simp only [Bool.not_eq_true'] at h1
              exact h1
            | false =>
              rw [hc, cond_false] at h
              cases hd : ((stOf ops ms bn i o).heapy && isCur ops.toList (stOf ops ms bn i o).mask (tr i).hist && (stOf ops ms bn i o).ban.isEmpty) with
              | true =>
                rw [hd, cond_true, Option.some.injEq] at h
                rw [Bool.and_eq_true, Bool.and_eq_true] at hd
                exact ⟨v, by rw [← h]; rfl, .inr ⟨hw, .inl ⟨hf, h', he, hb, .inr ⟨hd.1.1, hd.1.2, List.isEmpty_iff.1 hd.2, by rw [← h], by rw [← h]; rfl⟩⟩⟩⟩
              | false => rw [hd] at h; cases h

section
variable {call : CallF} {ops : Array Oper} {ms : List Nat} {tr : Nat → DS}

/-- the operation turned the memory -/
def Turns (tr : Nat → DS) (i : Nat) : Prop := (tr (i + 1)).hist = (i, (tr i).cur) :: (tr i).hist
def Stays (tr : Nat → DS) (i : Nat) : Prop := (tr (i + 1)).cur = (tr i).cur ∧ (tr (i + 1)).hist = (tr i).hist
/-- the operation may be done early -/
noncomputable def Flt (ops : Array Oper) (i : Nat) : Prop := fltAt ops.toList i = true

theorem Stays.not {i : Nat} (h : Stays tr i) : ¬ Turns tr i := fun hc => by
  have := h.2.symm.trans hc
  have := congrArg List.length this
  simp at this

theorem back_spec {n : Nat} (hC : ∀ i, i < n → Turns tr i ∨ Stays tr i) (h0 : (tr 0).hist = []) (m : Nat) : ∀ j, j ≤ n → ∃ q, q ≤ j ∧ back m (tr j).hist (tr j).cur = (tr q).cur ∧
    (∀ k, Turns tr k → q ≤ k → k < j → m.testBit k = false) ∧ (q = 0 ∨ (Turns tr (q - 1) ∧ m.testBit (q - 1) = true)) := by
  intro j
  induction j with
  | zero => exact fun _ => ⟨0, Nat.le_refl _, by rw [h0]; rfl, fun k _ _ hk => absurd hk (Nat.not_lt_zero _), .inl rfl⟩
  | succ j ih =>
    intro hj
    obtain ⟨q, h1, h2, h3, h4⟩ := ih (by omega)
    rcases hC j (by omega) with ht | hs
    · have he : back m (tr (j + 1)).hist (tr (j + 1)).cur = bif Nat.testBit m j then (tr (j + 1)).cur else back m (tr j).hist (tr j).cur := by rw [ht]; rfl
      cases hb : Nat.testBit m j with
      | true => exact ⟨j + 1, Nat.le_refl _, by rw [he, hb]; rfl, fun k _ h h' => by omega, .inr ⟨ht, hb⟩⟩
      | false =>
        refine ⟨q, by omega, by rw [he, hb]; exact h2, fun k hk hq hlt => ?_, h4⟩
        by_cases hkj : k = j
        · subst hkj; exact hb
        · exact h3 k hk hq (by omega)
    · refine ⟨q, by omega, by rw [hs.1, hs.2]; exact h2, fun k hk hq hlt => ?_, h4⟩
      by_cases hkj : k = j
      · subst hkj; exact absurd hk hs.not
      · exact h3 k hk hq (by omega)

/-- all that turned the memory is in the mask -/
theorem isCur_spec {n : Nat} (hC : ∀ i, i < n → Turns tr i ∨ Stays tr i) {m : Nat} (hm : ∀ i k, i < n → m.testBit i = true → (MM ms i).testBit k = true → m.testBit k = true) : ∀ j, j ≤ n →
    (∀ i k, i < j → Turns tr i → ¬ Flt ops i → k < i → Turns tr k → (MM ms i).testBit k = true) → isCur ops.toList m (tr j).hist = true → ∀ k, k < j → Turns tr k → m.testBit k = true := by
  intro j
  induction j with
  | zero => exact fun _ _ _ k hk => absurd hk (Nat.not_lt_zero _)
  | succ j ih =>
    intro hj hch hi k hk ht
    rcases hC j (by omega) with htj | hs
    · rw [htj] at hi
      have hi : (Nat.testBit m j && bif fltAt ops.toList j then isCur ops.toList m (tr j).hist else true) = true := hi
      rw [Bool.and_eq_true] at hi
      by_cases hkj : k = j
      · subst hkj; exact hi.1
      · by_cases hf : Flt ops j
        · have hf' : fltAt ops.toList j = true := hf
          rw [hf', cond_true] at hi
          exact ih (by omega) (fun i k hi => hch i k (by omega)) hi.2 k (by omega) ht
        · exact hm j k (by omega) hi.1 (hch j k (by omega) htj hf (by omega) ht)
    · rw [hs.2] at hi
      by_cases hkj : k = j
      · subst hkj; exact absurd ht hs.not
      · exact ih (by omega) (fun i k hi => hch i k (by omega)) hi k (by omega) ht

theorem chain {n : Nat} (hn : n = ops.size) (D : DrawOK ops ms) (hC : ∀ i, i < n → Turns tr i ∨ Stays tr i) (hI : ∀ i, i < n → Turns tr i → ¬ Flt ops i → isCur ops.toList (MM ms i) (tr i).hist = true) :
    ∀ (i k : Nat), i < n → k < i → Turns tr i → ¬ Flt ops i → Turns tr k → (MM ms i).testBit k = true := by
  intro i
  induction i using Nat.strongRecOn with
  | _ i ih =>
    intro k hi hk hti hf htk
    exact isCur_spec hC (fun a b ha hab hb => D.trans i a b (hn ▸ hi) hab hb) i (by omega) (fun a b ha hta hfa hb htb => ih a ha b (by omega) hb hta hfa htb) (hI i hi hti hf) k hk htk

theorem backOk_spec {n : Nat} (hC : ∀ i, i < n → Turns tr i ∨ Stays tr i) {m : Nat} (hm : ∀ i k, i < n → m.testBit i = true → (MM ms i).testBit k = true → m.testBit k = true)
    (hch : ∀ i k, i < n → k < i → Turns tr i → ¬ Flt ops i → Turns tr k → (MM ms i).testBit k = true) : ∀ j, j ≤ n → backOk ops.toList m (tr j).hist = true →
    ∀ k0 k, k0 < j → Turns tr k0 → m.testBit k0 = true → k < k0 → Turns tr k → m.testBit k = true := by
  intro j
  induction j with
  | zero => exact fun _ _ k0 k hk => absurd hk (Nat.not_lt_zero _)
  | succ j ih =>
    intro hj hb k0 k hk0 ht0 hm0 hk htk
    rcases hC j (by omega) with htj | hs
    · rw [htj] at hb
      have hb : (bif Nat.testBit m j then (bif fltAt ops.toList j then isCur ops.toList m (tr j).hist else true) else backOk ops.toList m (tr j).hist) = true := hb
      cases hbj : Nat.testBit m j with
      | false =>
        rw [hbj, cond_false] at hb
        by_cases hkj : k0 = j
        · subst hkj; rw [hbj] at hm0; cases hm0
        · exact ih (by omega) hb k0 k (by omega) ht0 hm0 hk htk
      | true =>
        rw [hbj, cond_true] at hb
        by_cases hf : Flt ops j
        · have hf' : fltAt ops.toList j = true := hf
          rw [hf', cond_true] at hb
          exact isCur_spec hC hm j (by omega) (fun i k hi hti hfi hki htk => hch i k (by omega) hki hti hfi htk) hb k (by omega) htk
        · exact hm j k (by omega) hbj (hch j k (by omega) (by omega) htj hf htk)
    · rw [hs.2] at hb
      by_cases hkj : k0 = j
      · subst hkj; exact absurd ht0 hs.not
      · exact ih (by omega) hb k0 k (by omega) ht0 hm0 hk htk

end
end Go.Ev
namespace Go.Ev
variable {P : Program}

/-- what is known of a run of the region in the order of its list -/
structure Tra (P : Program) (call : CallF) (ops : Array Oper) (ms : List Nat) (bn : List (Nat × Nat)) (tr : Nat → DS) (val : Nat → Value) (q : Nat → Nat) (lv : Nat → Nat) (N : Nat) : Prop where
  D : DrawOK ops ms
  fact : ∀ (i : Nat) (o : Oper), ops[i]? = some o → Fact P call ops ms bn tr i o (val i)
  hist : (tr 0).hist = []
  qle : ∀ i, i < ops.size → q i ≤ i
  qcur : ∀ i, i < ops.size → gOf ms tr i = (tr (q i)).cur
  qno : ∀ i, i < ops.size → ∀ k, Turns tr k → q i ≤ k → k < i → (MM ms i).testBit k = false
  qyes : ∀ i, i < ops.size → q i = 0 ∨ (Turns tr (q i - 1) ∧ (MM ms i).testBit (q i - 1) = true)
  lvt : ∀ i, Turns tr i → lv i = i + 1
  lvs : ∀ i, ¬ Turns tr i → lv i = q i
  low : ∀ i, i ≤ ops.size → (tr i).cur.low = (tr 0).cur.low
  dst : ∀ (i : Nat) (o : Oper) (t : Tmp), ops[i]? = some o → o.dst = some t → t < N
  low0 : (tr 0).cur.low ≤ (tr 0).cur.next
  und0 : ∀ t v, (tr 0).fr.get t = some v → under (tr 0).cur.next v

section
variable {call : CallF} {ops : Array Oper} {ms : List Nat} {bn : List (Nat × Nat)} {tr : Nat → DS} {val : Nat → Value} {q lv : Nat → Nat} {N : Nat}

theorem flt_iff {i : Nat} {o : Oper} (ho : ops[i]? = some o) : Flt ops i ↔ floats ops.toList o = true := by
  unfold Flt fltAt
  rw [Array.getElem?_toList, ho]
theorem Flt.lt {i : Nat} (h : Flt ops i) : i < ops.size := by
  unfold Flt fltAt at h
  rw [Array.getElem?_toList] at h
  split at h
  · rename_i o ho; exact (Array.getElem?_eq_some_iff.1 ho).1
  · cases h

theorem Tra.turnsOrStays (T : Tra P call ops ms bn tr val q lv N) (i : Nat) (hi : i < ops.size) : Turns tr i ∨ Stays tr i := by
  obtain ⟨o, ho⟩ := some_of hi
  rcases (T.fact i o ho).how with ⟨_, _, _, _, h1, h2⟩ | ⟨_, ⟨_, h', _, _, ⟨_, _, h1, h2⟩ | ⟨_, _, _, _, h2⟩⟩ | ⟨h', _, _, h2, _⟩⟩
  · exact .inr ⟨h1, h2⟩
  · exact .inr ⟨h1, h2⟩
  · exact .inl h2
  · exact .inl h2
theorem Tra.cur (T : Tra P call ops ms bn tr val q lv N) (i : Nat) (hi : i < ops.size) (ht : Turns tr i) (hf : ¬ Flt ops i) : isCur ops.toList (MM ms i) (tr i).hist = true := by
  obtain ⟨o, ho⟩ := some_of hi
  rw [flt_iff ho] at hf
  rcases (T.fact i o ho).how with ⟨_, _, _, _, h1, h2⟩ | ⟨_, ⟨_, h', _, _, ⟨_, _, h1, h2⟩ | ⟨_, h3, _, _, _⟩⟩ | ⟨h', _, _, _, h4 | ⟨_, _, h5, _⟩⟩⟩
  · exact absurd ht (Stays.not ⟨h1, h2⟩)
  · exact absurd ht (Stays.not ⟨h1, h2⟩)
  · exact h3
  · exact absurd h4.1 hf
  · exact h5
theorem Tra.fltTurns (T : Tra P call ops ms bn tr val q lv N) {i : Nat} (hf : Flt ops i) : Turns tr i := by
  obtain ⟨o, ho⟩ := some_of hf.lt
  rw [flt_iff ho] at hf
  rcases (T.fact i o ho).how with ⟨_, _, _, h4, _, _⟩ | ⟨_, ⟨h4, _⟩ | ⟨h', _, _, h2, _⟩⟩
  · rw [hf] at h4; cases h4
  · rw [hf] at h4; cases h4
  · exact h2
theorem Tra.chain (T : Tra P call ops ms bn tr val q lv N) {i k : Nat} (hi : i < ops.size) (hk : k < i) (hti : Turns tr i) (hf : ¬ Flt ops i) (htk : Turns tr k) : (MM ms i).testBit k = true :=
  Ev.chain rfl T.D T.turnsOrStays (fun i hi ht hf => T.cur i hi ht hf) i k hi hk hti hf htk
/-- what turned the memory ahead of what the operation waits for, it waits for too -/
theorem Tra.preds (T : Tra P call ops ms bn tr val q lv N) {i k0 k : Nat} (hi : i < ops.size) (hf : ¬ Flt ops i) (hk0 : k0 < i) (ht0 : Turns tr k0) (hm : (MM ms i).testBit k0 = true) (hk : k < k0) (htk : Turns tr k) : (MM ms i).testBit k = true := by
  have hcl : ∀ a b, a < ops.size → (MM ms i).testBit a = true → (MM ms a).testBit b = true → (MM ms i).testBit b = true := fun a b _ hab hb => T.D.trans i a b hi hab hb
  have hch : ∀ a b, a < ops.size → b < a → Turns tr a → ¬ Flt ops a → Turns tr b → (MM ms a).testBit b = true := fun a b ha hb hta hfa htb => T.chain ha hb hta hfa htb
  obtain ⟨o, ho⟩ := some_of hi
  have hf' := hf
  rw [flt_iff ho] at hf'
  rcases (T.fact i o ho).how with ⟨_, _, hb, _, h1, h2⟩ | ⟨_, ⟨_, h', _, hb, _⟩ | ⟨h', _, _, hti, h4 | ⟨_, _, h5, _⟩⟩⟩
  · exact backOk_spec T.turnsOrStays hcl hch i (by omega) hb k0 k hk0 ht0 hm hk htk
  · exact backOk_spec T.turnsOrStays hcl hch i (by omega) hb k0 k hk0 ht0 hm hk htk
  · exact absurd h4.1 hf'
  · exact T.chain hi (by omega) hti hf htk
/-- where nothing is turned between, the memory is the same -/
theorem Tra.same (T : Tra P call ops ms bn tr val q lv N) {j : Nat} : ∀ {k}, j ≤ k → k ≤ ops.size → (∀ x, j ≤ x → x < k → ¬ Turns tr x) → (tr k).cur = (tr j).cur := by
  intro k
  induction k with
  | zero => intro h _ _; have : j = 0 := by omega
            subst this; rfl
  | succ k ih =>
    intro h hk hno
    by_cases hjk : j = k + 1
    · subst hjk; rfl
    · rcases T.turnsOrStays k (by omega) with h1 | h1
      · exact absurd h1 (hno k (by omega) (by omega))
      · rw [h1.1, ih (by omega) (by omega) fun x h2 h3 => hno x h2 (by omega)]
/-- the frame behind the first `i` operations -/
theorem Tra.frame (T : Tra P call ops ms bn tr val q lv N) {t : Tmp} {v : Value} : ∀ {i}, i ≤ ops.size → (tr i).fr.get t = some v →
    (∃ k o, k < i ∧ ops[k]? = some o ∧ o.dst = some t ∧ v = val k) ∨ ((∀ k o, k < i → ops[k]? = some o → o.dst ≠ some t) ∧ (tr 0).fr.get t = some v) := by
  intro i
  induction i with
  | zero => exact fun _ h => .inr ⟨fun k _ hk => absurd hk (Nat.not_lt_zero _), h⟩
  | succ i ih =>
    intro hi h
    obtain ⟨o, ho⟩ := some_of (ops := ops) (i := i) (by omega)
    rw [(T.fact i o ho).fr] at h
    by_cases hd : o.dst = some t
    · refine .inl ⟨i, o, by omega, ho, hd, ?_⟩
      rw [hd] at h
      have : ((tr i).fr.set t (some (val i))).get t = some v := h
      rw [_root_.Go.Ev.T.get_set, if_pos rfl] at this
      cases this; rfl
    · have h' : (tr i).fr.get t = some v := by
        cases hdd : o.dst with
        | none => rw [hdd] at h; exact h
        | some d =>
          rw [hdd] at h hd
          have : ((tr i).fr.set d (some (val i))).get t = some v := h
          rw [_root_.Go.Ev.T.get_set, if_neg (fun hc => hd (by rw [hc]))] at this
          exact this
      rcases ih (by omega) h' with ⟨k, ok, h1, h2, h3, h4⟩ | ⟨h1, h2⟩
      · exact .inl ⟨k, ok, by omega, h2, h3, h4⟩
      · refine .inr ⟨fun k ok hk hok => ?_, h2⟩
        by_cases hki : k = i
        · subst hki
          rw [ho] at hok
          cases hok
          exact hd
        · exact h1 k ok (by omega) hok

/-- what is made early: a row (`false`) or a map (`true`) -/
noncomputable def valF (m : Bool) (h : Hp) : Value := Bool.rec (newPtr h) (.map (some h.next)) m
noncomputable def blkF (m : Bool) (z : List Value) (el : TypeId) : Blk := Bool.rec (.cells z el false) (.map [] 0) m
noncomputable def objF (m : Bool) (z : List Value) (el : TypeId) : Obj := Bool.rec (.cells ⟨z⟩ el (0, 0)) (.map #[] 0) m
noncomputable def valR (m : Bool) (r : Nat) : Value := Bool.rec (.pointer (some ⟨r, 0, none⟩)) (.map (some r)) m

/-- a row that may be made early: whatever the memory, it is made with these cells -/
structure MakesRow (P : Program) (call : CallF) (o : Oper) (fr : Fr) (z : List Value) (el : TypeId) (m : Bool) : Prop where
  cells : ∀ n e, RC n e z z
  run : ∀ h, evOp P call o fr h = some (valF m h, h.new (blkF m z el))
  guard : o.guard = none
theorem floats_row {all : List Oper} {o : Oper} {fr : Fr} {h h' : Hp} {v : Value} (hf : floats all o = true) (hc : calm fr o.op = true) (he : evOp P call o fr h = some (v, h')) : ∃ z el m, MakesRow P call o fr z el m := by
  unfold floats at hf
  rw [Bool.and_eq_true, Bool.or_eq_true] at hf
  have hg : o.guard = none := by
    cases hg : o.guard with
    | none => rfl
    | some g => rw [hg] at hf; simp at hf
  rcases hf.1 with hf | hf
  · unfold floatsOp at hf
    split at hf
    · rename_i t hop
      unfold evOp at he
      rw [hop] at he
      have he : oAlloc t P call fr h = some (v, h') := he
      unfold oAlloc at he
      split at he
      · cases he
      · rename_i z hz
        refine ⟨z, t, false, fun n e => ?_, fun h => ?_, hg⟩
        · obtain ⟨_, _, _, h3⟩ := zeroL_run hz { heap := #[], tape := fun _ _ => 0, drawn := 0, os := default, output := #[] }
          exact RC.plain h3 _ _
        · unfold evOp
          rw [hop]
          show oAlloc t P call fr h = _
          unfold oAlloc
          rw [hz]
          rfl
    · rename_i t hop
      refine ⟨[], 0, true, fun n e => RC.plain (fun x hx => by cases hx) _ _, fun h => ?_, hg⟩
      unfold evOp
      rw [hop]
      rfl
    · simp at hf
  · unfold floatsBox at hf
    split at hf
    · rename_i t x hop
      rw [hop] at hc
      unfold calm at hc
      simp only at hc
      split at hc
      · rename_i cs hl
        refine ⟨cs.toList, t, false, fun n e => RC.plain (fun x hx => by rw [List.all_eq_true] at hc; exact hc x hx) _ _, fun h => ?_, hg⟩
        unfold evOp
        rw [hop]
        show oBox t (.tmp x) P call fr h = _
        unfold oBox
        rw [hl]
        rfl
      · cases hc
    · cases hf

/-- the row that is made at place `k` -/
theorem Tra.row (T : Tra P call ops ms bn tr val q lv N) {k : Nat} {o : Oper} (ho : ops[k]? = some o) (hf : Flt ops k) : ∃ z el m, MakesRow P call o (tr k).fr z el m ∧ val k = valF m (tr k).cur ∧ (tr (k + 1)).cur = (tr k).cur.new (blkF m z el) := by
  rw [flt_iff ho] at hf
  rcases (T.fact k o ho).how with ⟨_, _, _, h4, _, _⟩ | ⟨_, ⟨h4, _⟩ | ⟨h', he, h1, h2, h5⟩⟩
  · rw [hf] at h4; cases h4
  · rw [hf] at h4; cases h4
  · have hc : calm (tr k).fr o.op = true := by
      rcases h5 with h5 | ⟨h5, _⟩
      · exact h5.2.1
      · rw [hf] at h5; cases h5
    obtain ⟨z, el, m, M⟩ := floats_row hf hc he
    rw [M.run] at he
    simp only [Option.some.injEq, Prod.mk.injEq] at he
    refine ⟨z, el, m, M, he.1.symm, ?_⟩
    rw [h1, ← he.2]
    rfl
/-- what it waits for, nothing of it turned the memory -/
theorem Tra.still0 (T : Tra P call ops ms bn tr val q lv N) {k : Nat} (hf : Flt ops k) : q k = 0 := by
  have hk := hf.lt
  obtain ⟨o, ho⟩ := some_of hk
  rw [flt_iff ho] at hf
  have hn : noneIn (MM ms k) (tr k).hist = true := by
    rcases (T.fact k o ho).how with ⟨_, _, _, h4, _, _⟩ | ⟨_, ⟨h4, _⟩ | ⟨h', he, h1, h2, h5⟩⟩
    · rw [hf] at h4; cases h4
    · rw [hf] at h4; cases h4
    · rcases h5 with h5 | ⟨h5, _⟩
      · exact h5.2.2
      · rw [hf] at h5; cases h5
  have key : ∀ j, j ≤ ops.size → noneIn (MM ms k) (tr j).hist = true → ∀ x, x < j → Turns tr x → (MM ms k).testBit x = false := by
    intro j
    induction j with
    | zero => exact fun _ _ x hx => absurd hx (Nat.not_lt_zero _)
    | succ j ih =>
      intro hj hn x hx ht
      rcases T.turnsOrStays j (by omega) with h1 | h1
      · rw [h1] at hn
        have hn : (not (Nat.testBit (MM ms k) j) && noneIn (MM ms k) (tr j).hist) = true := hn
        rw [Bool.and_eq_true] at hn
        by_cases hxj : x = j
        · subst hxj
          simpa using hn.1
        · exact ih (by omega) hn.2 x (by omega) ht
      · rw [h1.2] at hn
        by_cases hxj : x = j
        · subst hxj; exact absurd ht h1.not
        · exact ih (by omega) hn x (by omega) ht
  rcases T.qyes k hk with h | ⟨h1, h2⟩
  · exact h
  · by_cases h0 : q k = 0
    · exact h0
    · have := key k (by omega) hn (q k - 1) (by have := T.qle k hk; omega) h1
      rw [this] at h2
      cases h2

/-- the row of which it is known that only it is written -/
def Own (ops : Array Oper) (ms : List Nat) (bn : List (Nat × Nat)) (k b : Nat) : Prop := ∃ o, ops[k]? = some o ∧ (stOf ops ms bn k o).own = some b
/-- it is made, but has no number yet -/
def Pend (ops : Array Oper) (S : Nat → Prop) (s k : Nat) : Prop := S k ∧ Flt ops k ∧ s ≤ k

/-- a row that is made and has no number yet -/
structure Waits (P : Program) (call : CallF) (ops : Array Oper) (tr : Nat → DS) (w0 : World) (g : Hp) (a : Act) (w : World) (e : Env) (k r : Nat) : Prop where
  row : ∀ o z el m, ops[k]? = some o → MakesRow P call o (tr k).fr z el m → w.heap[r]? = some (objF m z el)
  lt : r < w.heap.size
  ge : w0.heap.size ≤ r
  img : ∀ b x, g.get b = some x → e.phi b ≠ r
  tmp : ∀ o z el m d, ops[k]? = some o → MakesRow P call o (tr k).fr z el m → o.dst = some d → a.tmps[d]? = some (valR m r)

/-- what holds where the operations of `S` are done -/
structure Inv (P : Program) (call : CallF) (ops : Array Oper) (ms : List Nat) (bn : List (Nat × Nat)) (tr : Nat → DS) (val : Nat → Value) (lv : Nat → Nat) (e0 : Env) (w0 : World) (a0 : Act) (S : Nat → Prop) (a : Act) (w : World) (s : Nat) (e : Env) : Prop where
  sn : s ≤ ops.size
  pre1 : ∀ k, k < s → Turns tr k → S k
  pre2 : ∀ k, k < ops.size → Turns tr k → ¬ Flt ops k → S k → k < s
  rel : Rel P (tr s).cur e w
  stp : Stp (tr 0).cur e0 w0 (tr s).cur e w
  hu : ∀ j, j ≤ s → HU (tr j).cur
  grow : ∀ k, k < s → Turns tr k → barrier ops ms k = false → ∀ b x, ¬ Own ops ms bn k b → (tr k).cur.get b = some x → (tr (k + 1)).cur.get b = some x
  mono : ∀ k, k < s → (tr k).cur.next ≤ (tr (k + 1)).cur.next
  und : ∀ k, k < ops.size → S k → under (tr (lv k)).cur.next (val k)
  frame : ∀ t v, ((∃ k o, S k ∧ (Flt ops k → k < s) ∧ ops[k]? = some o ∧ o.dst = some t ∧ v = val k) ∨ ((∀ k o, S k → ops[k]? = some o → o.dst ≠ some t) ∧ (tr 0).fr.get t = some v)) →
    ∃ v', a.tmps[t]? = some v' ∧ RV (tr s).cur.next e v v'
  pend : ∃ R : Nat → Nat, (∀ k k', Pend ops S s k → Pend ops S s k' → R k = R k' → k = k') ∧ ∀ k, Pend ops S s k → Waits P call ops tr w0 (tr s).cur a w e k (R k)
  size : a.tmps.size = a0.tmps.size
  defers : a.defers = a0.defers

theorem Inv.le {e0 e : Env} {w0 w : World} {a0 a : Act} {S : Nat → Prop} {s : Nat} (I : Inv P call ops ms bn tr val lv e0 w0 a0 S a w s e) {j k : Nat} (hjk : j ≤ k) (hk : k ≤ s) : (tr j).cur.next ≤ (tr k).cur.next := by
  induction k with
  | zero => have : j = 0 := by omega
            subst this; exact Nat.le_refl _
  | succ k ih =>
    by_cases h : j = k + 1
    · subst h; exact Nat.le_refl _
    · exact Nat.le_trans (ih (by omega) (by omega)) (I.mono k (by omega))

/-- a row of the machine's gets a number -/
theorem Rel.take {h : Hp} {e : Env} {w : World} (r : Rel P h e w) {z : List Value} {el : TypeId} {m : Bool} {k : Nat} (hz : ∀ n e, RC n e z z) (hw : w.heap[k]? = some (objF m z el)) (hno : ∀ b x, h.get b = some x → e.phi b ≠ k) :
    Rel P (h.new (blkF m z el)) (e.ext h.next k 0) w := by
  have hag := e.ext_agree h.next k 0
  have hold : ∀ b y, h.get b = some y → h.next ≠ b := fun b y hb hne => by have := (r.lies b y hb).1; omega
  refine ⟨fun b y hb => ?_, fun b c y z hb hc he => ?_, Nat.le_succ_of_le r.low, r.glob.mono (Nat.le_succ _) hag⟩
  · rw [Hp.get_new] at hb
    split at hb
    · rename_i hbn
      subst hbn
      cases hb
      refine ⟨by simp, ?_⟩
      cases m with
      | false => exact ⟨⟨z⟩, by rw [Env.ext_phi]; exact hw, by rw [if_neg (by simp)]; exact hz _ _⟩
      | true => exact ⟨#[], by rw [Env.ext_phi]; exact hw, ⟨rfl, by simp⟩⟩
    · obtain ⟨h1, h2⟩ := r.lies b y hb
      exact ⟨by simp; omega, h2.mono h1 (by simp) hag rfl⟩
  · rw [Hp.get_new] at hb hc
    split at hb <;> split at hc
    · omega
    · rename_i h1 h2
      subst h1
      rw [Env.ext_phi, (hag c (r.lies c z hc).1).1] at he
      exact absurd he.symm (hno c z hc)
    · rename_i h1 h2
      subst h2
      rw [Env.ext_phi, (hag b (r.lies b y hb).1).1] at he
      exact absurd he (hno b y hb)
    · rw [(hag b (r.lies b y hb).1).1, (hag c (r.lies c z hc).1).1] at he
      exact r.inj b c y z hb hc he
theorem RV.madeF {h : Hp} (e : Env) (m : Bool) (x : Blk) : RV (h.new x).next e (valF m h) (valR m (e.phi h.next)) := by
  cases m with
  | false => exact RV.newPtr e x
  | true => exact ⟨by simp [valF, Ev.under], by simp [valF, valR, conc]⟩
theorem Stp.take {h0 h : Hp} {e0 e : Env} {w0 w : World} (s : Stp h0 e0 w0 h e w) (hl : h0.low ≤ h0.next) (hu : ∀ b x, h.get b = some x → b < h.next) {x : Blk} {k : Nat} (hk : w0.heap.size ≤ k) : Stp h0 e0 w0 (h.new x) (e.ext h.next k 0) w := by
  have hag := e.ext_agree h.next k 0
  refine ⟨Nat.le_succ_of_le s.next, s.agree.trans s.next hag, fun b y hb => ?_, s.keep, s.size, s.os, s.tape, s.output, s.low, fun b hb => ?_⟩
  · rw [Hp.get_new] at hb
    split at hb
    · rename_i hbn
      subst hbn
      rw [Env.ext_phi]; exact .inr hk
    · rw [(hag b (hu b y hb)).1]
      exact s.img b y hb
  · have hne : h.next ≠ b := by have := s.next; omega
    rw [Hp.get_new, if_neg hne]
    exact s.prot b hb

theorem Inv.absorb1 (T : Tra P call ops ms bn tr val q lv N) {e0 e : Env} {w0 w : World} {a0 a : Act} {S : Nat → Prop} {s k : Nat} (I : Inv P call ops ms bn tr val lv e0 w0 a0 S a w s e) (hk : S k) (hf : Flt ops k) (hsk : s ≤ k)
    (hno : ∀ x, s ≤ x → x < k → ¬ Turns tr x) : ∃ e', Inv P call ops ms bn tr val lv e0 w0 a0 S a w (k + 1) e' := by
  have hkn := hf.lt
  obtain ⟨o, ho⟩ := some_of hkn
  obtain ⟨z, el, m, M, hval, hcur⟩ := T.row ho hf
  obtain ⟨R, hR1, hR2⟩ := I.pend
  have W := hR2 k ⟨hk, hf, hsk⟩
  have hcs : (tr k).cur = (tr s).cur := T.same hsk (by omega) hno
  rw [hcs] at hval hcur
  have hag := e.ext_agree (tr s).cur.next (R k) 0
  have hrow := W.row o z el m ho M
  have hrel : Rel P (tr (k + 1)).cur (e.ext (tr s).cur.next (R k) 0) w := by rw [hcur]; exact I.rel.take M.cells hrow W.img
  have hnx : (tr (k + 1)).cur.next = (tr s).cur.next + 1 := by rw [hcur]; rfl
  have hsame : ∀ j, s ≤ j → j ≤ k → (tr j).cur = (tr s).cur := fun j h1 h2 => T.same h1 (by omega) fun x h3 h4 => hno x h3 (by omega)
  refine ⟨e.ext (tr s).cur.next (R k) 0, hkn, fun x hx ht => ?_, fun x hxn ht hxf hx => ?_, hrel, by rw [hcur]; exact I.stp.take T.low0 (fun b x hb => (I.rel.lies b x hb).1) W.ge, fun j hj => ?_, fun x hx ht hb b y hown hg => ?_, fun x hx => ?_, I.und, fun t v hv => ?_, ?_, I.size, I.defers⟩
  · rcases Nat.lt_or_ge x s with h | h
    · exact I.pre1 x h ht
    · by_cases hxk : x = k
      · subst hxk; exact hk
      · exact absurd ht (hno x h (by omega))
  · have := I.pre2 x hxn ht hxf hx; omega
  · by_cases hjk : j = k + 1
    · subst hjk; exact hrel.hu
    · rcases Nat.lt_or_ge s j with h | h
      · rw [hsame j (by omega) (by omega)]; exact I.hu s (Nat.le_refl _)
      · exact I.hu j h
  · rcases Nat.lt_or_ge x s with h | h
    · exact I.grow x h ht hb b y hown hg
    · by_cases hxk : x = k
      · subst hxk
        rw [hcs] at hg
        have hbn := (I.rel.lies b y hg).1
        rw [hcur, Hp.get_new, if_neg (by omega)]
        exact hg
      · exact absurd ht (hno x h (by omega))
  · rcases Nat.lt_or_ge x s with h | h
    · exact I.mono x h
    · by_cases hxk : x = k
      · subst hxk; rw [hcs, hnx]; omega
      · rw [hsame x h (by omega), hsame (x + 1) (by omega) (by omega)]; exact Nat.le_refl _
  · have old : (∃ v', a.tmps[t]? = some v' ∧ RV (tr s).cur.next e v v') → ∃ v', a.tmps[t]? = some v' ∧ RV (tr (k + 1)).cur.next (e.ext (tr s).cur.next (R k) 0) v v' := fun ⟨v', h1, h2⟩ => ⟨v', h1, by rw [hnx]; exact h2.mono (Nat.le_succ _) hag⟩
    rcases hv with ⟨x, ox, h1, h2, h3, h4, h5⟩ | h1
    · by_cases hxk : x = k
      · subst hxk
        rw [h5, hval]
        rw [ho] at h3
        cases h3
        refine ⟨_, W.tmp o z el m t ho M h4, ?_⟩
        rw [hcur]
        have := RV.madeF (h := (tr s).cur) (e.ext (tr s).cur.next (R x) 0) m (blkF m z el)
        rw [Env.ext_phi] at this
        exact this
      · refine old (I.frame t v (.inl ⟨x, ox, h1, fun hxf => ?_, h3, h4, h5⟩))
        have hx := h2 hxf
        rcases Nat.lt_or_ge x s with h | h
        · exact h
        · exact absurd (T.fltTurns hxf) (hno x h (by omega))
    · exact old (I.frame t v (.inr h1))
  · refine ⟨R, fun x y hx hy => hR1 x y ⟨hx.1, hx.2.1, by have := hx.2.2; omega⟩ ⟨hy.1, hy.2.1, by have := hy.2.2; omega⟩, fun x hx => ?_⟩
    have Wx := hR2 x ⟨hx.1, hx.2.1, by have := hx.2.2; omega⟩
    refine ⟨Wx.row, Wx.lt, Wx.ge, fun b y hb => ?_, Wx.tmp⟩
    rw [hcur, Hp.get_new] at hb
    split at hb
    · rename_i hbn
      subst hbn
      rw [Env.ext_phi]
      intro hc
      have := hR1 k x ⟨hk, hf, hsk⟩ ⟨hx.1, hx.2.1, by have := hx.2.2; omega⟩ hc
      have := hx.2.2
      omega
    · rw [(hag b (I.rel.lies b y hb).1).1]
      exact Wx.img b y hb

theorem Inv.absorb (T : Tra P call ops ms bn tr val q lv N) {e0 e : Env} {w0 w : World} {a0 a : Act} {S : Nat → Prop} {s : Nat} (I : Inv P call ops ms bn tr val lv e0 w0 a0 S a w s e) : ∀ j, j ≤ ops.size → (∀ k, k < j → Turns tr k → S k) →
    ∃ s' e', Inv P call ops ms bn tr val lv e0 w0 a0 S a w s' e' ∧ ∀ k, k < j → Turns tr k → k < s' := by
  intro j
  induction j with
  | zero => exact fun _ _ => ⟨s, e, I, fun k hk => absurd hk (Nat.not_lt_zero _)⟩
  | succ j ih =>
    intro hj hS
    obtain ⟨s', e', I', h1⟩ := ih (by omega) fun k hk => hS k (by omega)
    by_cases h : Turns tr j ∧ s' ≤ j
    · have hSj := hS j (by omega) h.1
      by_cases hf : Flt ops j
      · obtain ⟨e2, I2⟩ := I'.absorb1 T hSj hf h.2 fun x hx hxj ht => by have := h1 x hxj ht; omega
        exact ⟨j + 1, e2, I2, fun k hk _ => hk⟩
      · have := I'.pre2 j (by omega) h.1 hf hSj
        omega
    · refine ⟨s', e', I', fun k hk ht => ?_⟩
      by_cases hkj : k = j
      · subst hkj
        rcases Nat.lt_or_ge k s' with h2 | h2
        · exact h2
        · exact absurd ⟨ht, h2⟩ h
      · exact h1 k (by omega) ht

end
end Go.Ev
namespace Go.Ev
variable {P : Program}
section
variable {call : CallF} {ops : Array Oper} {ms : List Nat} {bn : List (Nat × Nat)} {tr : Nat → DS} {val : Nat → Value} {q lv : Nat → Nat} {N : Nat}
variable {e0 e : Env} {w0 w : World} {a0 a : Act} {S : Nat → Prop} {s : Nat}

/-- what an operation that may come next sees of the frame -/
theorem Inv.sees (T : Tra P call ops ms bn tr val q lv N) (I : Inv P call ops ms bn tr val lv e0 w0 a0 S a w s e) (hS : ∀ i o, ops[i]? = some o → S i → ∀ x ∈ o.after, Region.binds .any x = true → S x.on)
    {i : Nat} {o : Oper} (ho : ops[i]? = some o) (hi : ¬ S i) (hp : ∀ k, (MM ms i).testBit k = true → S k) (hqs : q i ≤ s) {t : Tmp} (ht : t ∈ o.looksAt ops) : Sees (tr (q i)).cur.next e (tr i).fr a t := by
  have hin : i < ops.size := (Array.getElem?_eq_some_iff.1 ho).1
  intro v hv
  rcases T.frame (Nat.le_of_lt hin) hv with ⟨k, ok, hk, hok, hd, rfl⟩ | ⟨hno, h0⟩
  · have hkn : k < ops.size := by omega
    have hki : (MM ms i).testBit k = true := by
      rcases (T.D.pair i k o ok ho hok (by omega) t hd).2 ht with h | h
      · exact h
      · have := T.D.lt k i hkn h; omega
    have hlv : lv k ≤ q i := by
      by_cases htk : Turns tr k
      · rw [T.lvt k htk]
        rcases Nat.lt_or_ge k (q i) with h | h
        · omega
        · have := T.qno i hin k htk h hk
          rw [hki] at this; cases this
      · rw [T.lvs k htk]
        rcases T.qyes k hkn with h | ⟨h3, h4⟩
        · omega
        · have h5 := T.D.trans i k _ hin hki h4
          have h6 := T.D.lt k _ hkn h4
          rcases Nat.lt_or_ge (q k - 1) (q i) with h | h
          · omega
          · have := T.qno i hin _ h3 h (by omega)
            rw [h5] at this; cases this
    obtain ⟨v', h1, h2⟩ := I.frame t (val k) (.inl ⟨k, ok, hp k hki, fun hf => by rw [T.lvt k (T.fltTurns hf)] at hlv; omega, hok, hd, rfl⟩)
    refine ⟨v', h1, ?_, h2.eq⟩
    exact under_mono (I.le hlv hqs) _ (I.und k hkn (hp k hki))
  · have hne : ∀ k ok, S k → ops[k]? = some ok → ok.dst ≠ some t := by
      intro k ok hk hok hd
      have hkn : k < ops.size := (Array.getElem?_eq_some_iff.1 hok).1
      rcases Nat.lt_trichotomy k i with h | h | h
      · exact hno k ok h hok hd
      · subst h; exact hi hk
      · rcases (T.D.pair i k o ok ho hok (by omega) t hd).2 ht with h3 | h3
        · have := T.D.lt i k hin h3; omega
        · exact hi (T.D.closed hS k i hkn hk h3)
    obtain ⟨v', h1, h2⟩ := I.frame t v (.inr ⟨hne, h0⟩)
    exact ⟨v', h1, under_mono (I.le (Nat.zero_le _) hqs) _ (T.und0 t v h0), h2.eq⟩

theorem get_without (t : T Blk) : ∀ (bs : List Nat) (b : Nat), (without t bs).get b = if b ∈ bs then none else t.get b
  | [], b => by simp [without]
  | c :: bs, b => by
    have he : (without t (c :: bs)) = (without t bs).set c none := rfl
    rw [he, _root_.Go.Ev.T.get_set, get_without t bs b]
    by_cases hcb : c = b
    · subst hcb; simp
    · rw [if_neg hcb]
      by_cases hb : b ∈ bs
      · rw [if_pos hb, if_pos (List.mem_cons_of_mem _ hb)]
      · rw [if_neg hb, if_neg (by simp; exact ⟨fun hc => hcb hc.symm, hb⟩)]
theorem mem_banOf {i k b : Nat} (hb : ownOf k bn = some b) (hki : k ≠ i) (h1 : (MM ms i).testBit k = false) (h2 : (MM ms k).testBit i = false) : b ∈ banOf ms i bn := by
  have hm : (k, b) ∈ bn := by
    induction bn with
    | nil => cases hb
    | cons x rest ih =>
      unfold ownOf at hb
      cases hx : Nat.beq x.1 k with
      | true =>
        rw [hx, cond_true] at hb
        cases hb
        have := Nat.eq_of_beq_eq_true hx
        subst this
        exact List.mem_cons_self ..
      | false =>
        rw [hx, cond_false] at hb
        exact List.mem_cons_of_mem _ (ih hb)
  unfold banOf
  refine List.mem_filterMap.2 ⟨(k, b), hm, ?_⟩
  have hbk : Nat.beq k i = false := by
    cases h : Nat.beq k i with
    | false => rfl
    | true => exact absurd (Nat.eq_of_beq_eq_true h) hki
  have h1' : Nat.testBit (ms.getD i 0) k = false := h1
  have h2' : Nat.testBit (ms.getD k 0) i = false := h2
  simp only [hbk, h1', h2']
  rfl

/-- the memory at which it looks is a part of the memory that is -/
theorem Inv.part (T : Tra P call ops ms bn tr val q lv N) (I : Inv P call ops ms bn tr val lv e0 w0 a0 S a w s e) (hS : ∀ i o, ops[i]? = some o → S i → ∀ x ∈ o.after, Region.binds .any x = true → S x.on)
    {i : Nat} {o : Oper} (ho : ops[i]? = some o) (hi : ¬ S i) (hh : heapy o.op = true) : ∀ {j}, q i ≤ j → j ≤ s → ∀ b x, (without (tr (q i)).cur.t (banOf ms i bn)).get b = some x → (tr j).cur.get b = some x := by
  have hin : i < ops.size := (Array.getElem?_eq_some_iff.1 ho).1
  intro j
  induction j with
  | zero =>
    intro h _ b x hb
    have : q i = 0 := by omega
    rw [this, get_without] at hb
    split at hb
    · cases hb
    · exact hb
  | succ j ih =>
    intro h hj b x hb
    by_cases hqj : q i = j + 1
    · rw [← hqj]
      rw [get_without] at hb
      split at hb
      · cases hb
      · exact hb
    · have h1 := ih (by omega) (by omega) b x hb
      have hjn : j < ops.size := by have := I.sn; omega
      rcases T.turnsOrStays j hjn with ht | hs
      · have hSj : S j := I.pre1 j (by omega) ht
        have hne : i ≠ j := by rintro rfl; exact hi hSj
        have hnj : (MM ms j).testBit i = false := by
          cases h3 : (MM ms j).testBit i with
          | false => rfl
          | true => exact absurd (T.D.closed hS j i hjn hSj h3) hi
        have hni : (MM ms i).testBit j = false := by
          cases h3 : (MM ms i).testBit j with
          | false => rfl
          | true =>
            have h4 := T.D.lt i j hin h3
            have := T.qno i hin j ht (by omega) h4
            rw [h3] at this; exact this
        refine I.grow j (by omega) ht ?_ b x ?_ h1
        · cases hb2 : barrier ops ms j with
          | false => rfl
          | true =>
            rcases barrier_spec hb2 i o ho hne hh with h3 | h3
            · rw [hnj] at h3; cases h3
            · rw [hni] at h3; cases h3
        · rintro ⟨oj, hoj, hown⟩
          have hown : (bif looseO ops ms oj j then ownOf j bn else none) = some b := hown
          cases hl : looseO ops ms oj j with
          | false => rw [hl] at hown; cases hown
          | true =>
            rw [hl, cond_true] at hown
            rw [get_without, if_pos (mem_banOf hown (fun hc => hne hc.symm) hni hnj)] at hb
            cases hb
      · rw [hs.1]; exact h1

/-- all that turned the memory ahead of it has its number -/
theorem Inv.ready (T : Tra P call ops ms bn tr val q lv N) (I : Inv P call ops ms bn tr val lv e0 w0 a0 S a w s e) {i : Nat} (hin : i < ops.size) (hf : ¬ Flt ops i) (hp : ∀ k, (MM ms i).testBit k = true → S k) :
    ∃ s' e', Inv P call ops ms bn tr val lv e0 w0 a0 S a w s' e' ∧ q i ≤ s' ∧ (Turns tr i → ∀ k, k < i → Turns tr k → k < s') := by
  have hq : ∀ s', (∀ k, k < q i → Turns tr k → k < s') → q i ≤ s' := fun s' h => by
    rcases T.qyes i hin with h1 | ⟨h1, h2⟩
    · omega
    · by_cases h0 : q i = 0
      · omega
      · have := h (q i - 1) (by omega) h1; omega
  by_cases hti : Turns tr i
  · obtain ⟨s', e', I', h1⟩ := I.absorb T i (by omega) fun k hk ht => hp k (T.chain hin hk hti hf ht)
    exact ⟨s', e', I', hq s' fun k hk ht => h1 k (Nat.lt_of_lt_of_le hk (T.qle i hin)) ht, fun _ => h1⟩
  · obtain ⟨s', e', I', h1⟩ := I.absorb T (q i) (Nat.le_trans (T.qle i hin) (by omega)) fun k hk ht => by
      rcases T.qyes i hin with h1 | ⟨h1, h2⟩
      · omega
      · have hlt := T.D.lt i _ hin h2
        rcases Nat.lt_or_ge k (q i - 1) with h3 | h3
        · exact hp k (T.preds hin hf hlt h1 h2 h3 ht)
        · have : k = q i - 1 := by omega
          subst this
          exact hp _ h2
    exact ⟨s', e', I', hq s' h1, fun h => absurd h hti⟩

/-- another road to the same numbers -/
theorem Rel.env {h : Hp} {e e' : Env} {w : World} (r : Rel P h e' w) (ha : Agree h.next e e') : Rel P h e w := by
  refine ⟨fun b x hb => ⟨(r.lies b x hb).1, (r.lies b x hb).2.mono (r.lies b x hb).1 (Nat.le_refl _) ha.symm rfl⟩, fun b c x y hb hc he => ?_, r.low, ⟨r.glob.le, fun b hb => ?_⟩⟩
  · rw [← (ha b (r.lies b x hb).1).1, ← (ha c (r.lies c y hc).1).1] at he
    exact r.inj b c x y hb hc he
  · rw [← (ha b (Nat.lt_of_lt_of_le hb r.glob.le)).1]; exact r.glob.fix b hb

/-- a store writes one row -/
theorem storeA_own {h h' : Hp} {t : TypeId} {ad : Addr} {v : Value} (hl : storeA P h t ad v = some h') : h'.next = h.next ∧ h'.low = h.low ∧ ∀ b, b ≠ ad.block → h'.get b = h.get b := by
  have key : ∀ vs, wr h ad vs = some h' → h'.next = h.next ∧ h'.low = h.low ∧ ∀ b, b ≠ ad.block → h'.get b = h.get b := by
    intro vs hw
    unfold wr at hw
    split at hw
    · rename_i c el op hsp hb
      cases hle : (not (Nat.blt ad.block h.low) && Nat.ble (Nat.add ad.off vs.length) c.length) with
      | false => rw [hle, cond_false] at hw; cases hw
      | true =>
        rw [hle, cond_true, Option.some.injEq] at hw
        subst hw
        exact ⟨rfl, rfl, fun b hb => by rw [Hp.get_put, if_neg (fun hc => hb hc.symm)]⟩
    · cases hw
  unfold storeA at hl
  split at hl
  · cases hl
  · split at hl
    · cases hl
    · rename_i n _ v' _
      cases hb : Nat.beq v.cells.toList.length n with
      | false => rw [hb] at hl; cases hl
      | true => rw [hb, cond_true] at hl; exact key _ hl

end
end Go.Ev
namespace Go.Ev
variable {P : Program}
section
variable {call : CallF} {ops : Array Oper} {ms : List Nat} {bn : List (Nat × Nat)} {tr : Nat → DS} {val : Nat → Value} {q lv : Nat → Nat} {N : Nat}
variable {e0 e : Env} {w0 w : World} {a0 a : Act} {S : Nat → Prop} {s : Nat}

theorem put_other {a : Act} {o : Oper} {v : Value} {t : Tmp} (hd : o.dst ≠ some t) : (a.put o.dst v).tmps[t]? = a.tmps[t]? := by
  cases hdd : o.dst with
  | none => rfl
  | some d => rw [hdd] at hd; simp only [Act.put]; exact Array.getElem?_setIfInBounds_ne (fun hc => hd (by rw [hc]))

/-- the frame behind one operation more -/
theorem Inv.frame' (T : Tra P call ops ms bn tr val q lv N) (I : Inv P call ops ms bn tr val lv e0 w0 a0 S a w s e) (hN : N ≤ a0.tmps.size) {i : Nat} {o : Oper} (ho : ops[i]? = some o) {s2 : Nat} {e' : Env} {n' : Nat} {v' : Value}
    (hn' : (tr s).cur.next ≤ n') (hag : Agree (tr s).cur.next e e') (hfl : ∀ k, Flt ops k → k ≠ i → k < s2 → S k → k < s) (hv : (Flt ops i → i < s2) → RV n' e' (val i) v') :
    ∀ t v, ((∃ k ok, (S k ∨ k = i) ∧ (Flt ops k → k < s2) ∧ ops[k]? = some ok ∧ ok.dst = some t ∧ v = val k) ∨ ((∀ k ok, (S k ∨ k = i) → ops[k]? = some ok → ok.dst ≠ some t) ∧ (tr 0).fr.get t = some v)) →
      ∃ u, (a.put o.dst v').tmps[t]? = some u ∧ RV n' e' v u := by
  intro t v h
  rcases h with ⟨k, ok, hk, hkf, hok, hd, rfl⟩ | ⟨hno, h0⟩
  · by_cases hki : k = i
    · subst hki
      rw [ho] at hok
      cases hok
      refine ⟨v', ?_, hv hkf⟩
      have hlt : t < a.tmps.size := by rw [I.size]; exact Nat.lt_of_lt_of_le (T.dst k o t ho hd) hN
      rw [hd]
      simp [Act.put, hlt]
    · have hSk : S k := hk.resolve_right hki
      have hne : o.dst ≠ some t := (T.D.pair i k o ok ho hok (fun hc => hki hc.symm) t hd).1
      obtain ⟨u, h1, h2⟩ := I.frame t (val k) (.inl ⟨k, ok, hSk, fun hf => hfl k hf hki (hkf hf) hSk, hok, hd, rfl⟩)
      exact ⟨u, by rw [put_other hne]; exact h1, h2.mono hn' hag⟩
  · obtain ⟨u, h1, h2⟩ := I.frame t v (.inr ⟨fun k ok hk hok => hno k ok (.inl hk) hok, h0⟩)
    exact ⟨u, by rw [put_other (hno i o (.inr rfl) ho)]; exact h1, h2.mono hn' hag⟩

/-- a row that waits goes on waiting -/
theorem Waits.go (T : Tra P call ops ms bn tr val q lv N) {g g' : Hp} {k r i : Nat} {o : Oper} {e' : Env} {w' : World} {v' : Value} (W : Waits P call ops tr w0 g a w e k r) (ho : ops[i]? = some o) (hki : k ≠ i) (st : Stp g e w g' e' w') :
    Waits P call ops tr w0 g' (a.put o.dst v') w' e' k r := by
  refine ⟨fun ok z el m hok M => ?_, Nat.lt_of_lt_of_le W.lt st.size, W.ge, fun b x hb hc => ?_, fun ok z el m d hok M hd => ?_⟩
  · rw [st.keep r W.lt W.img]; exact W.row ok z el m hok M
  · rcases st.img b x hb with ⟨c, y, h1, h2⟩ | h1
    · exact W.img c y h1 (h2.trans hc)
    · have := W.lt; omega
  · rw [put_other (T.D.pair i k o ok ho hok (fun hc => hki hc.symm) d hd).1]
    exact W.tmp ok z el m d hok M hd

/-- where nothing is turned -/
theorem Inv.still (T : Tra P call ops ms bn tr val q lv N) (I : Inv P call ops ms bn tr val lv e0 w0 a0 S a w s e) (hN : N ≤ a0.tmps.size) {i : Nat} {o : Oper} (ho : ops[i]? = some o) (hf : ¬ Flt ops i) (hqs : q i ≤ s)
    {v' : Value} {w' : World} (hnt : ¬ Turns tr i) (hrel : Rel P (tr s).cur e w') (hst : Stp (tr s).cur e w (tr s).cur e w') (hv : RV (tr (q i)).cur.next e (val i) v') :
    Inv P call ops ms bn tr val lv e0 w0 a0 (fun k => S k ∨ k = i) (a.put o.dst v') w' s e := by
  obtain ⟨R, hR1, hR2⟩ := I.pend
  have hP : ∀ k, Pend ops (fun k => S k ∨ k = i) s k → Pend ops S s k ∧ k ≠ i := fun k hk => by
    have hki : k ≠ i := by rintro rfl; exact hf hk.2.1
    exact ⟨⟨hk.1.resolve_right hki, hk.2⟩, hki⟩
  refine ⟨I.sn, fun k hk ht => .inl (I.pre1 k hk ht), fun k hk ht hkf hSk => ?_, hrel, I.stp.trans hst, I.hu, I.grow, I.mono, fun k hk hSk => ?_,
    I.frame' T hN ho (Nat.le_refl _) (Agree.refl _ _) (fun k _ _ h _ => h) (fun _ => hv.mono (I.le hqs (Nat.le_refl _)) (Agree.refl _ _)), ⟨R, fun k k' hk hk' => hR1 k k' (hP k hk).1 (hP k' hk').1, fun k hk => (hR2 k (hP k hk).1).go T ho (hP k hk).2 hst⟩, ?_, ?_⟩
  · rcases hSk with h | rfl
    · exact I.pre2 k hk ht hkf h
    · exact absurd ht hnt
  · by_cases hki : k = i
    · subst hki; rw [T.lvs k hnt]; exact hv.under
    · exact I.und k hk (hSk.resolve_right hki)
  · rw [Act.put_size]; exact I.size
  · rw [Act.put_defers']; exact I.defers

/-- a row is made early -/
theorem Inv.float (T : Tra P call ops ms bn tr val q lv N) (hc : CallOK P call) (I : Inv P call ops ms bn tr val lv e0 w0 a0 S a w s e) (hN : N ≤ a0.tmps.size) {i : Nat} {o : Oper} (ho : ops[i]? = some o) (hi : ¬ S i) (hf : Flt ops i) (hops : ∀ x ∈ o.op.operands, LK (tr s).cur.next e (tr i).fr a x)
    {K : Act → World → Prop} {Q : Exit → Act → World → Prop} {ro : Option Nat} {mm : Nat} (hK : ∀ a' w' s' e', Inv P call ops ms bn tr val lv e0 w0 a0 (fun k => S k ∨ k = i) a' w' s' e' → K a' w') : wpOpIn (WF ro) mm P ops Q i K a w := by
  obtain ⟨z, el, m, M, hval, hcur⟩ := T.row ho hf
  have hin := hf.lt
  have hsi : s ≤ i := by
    rcases Nat.lt_or_ge i s with h | h
    · exact absurd (I.pre1 i h (T.fltTurns hf)) hi
    · exact h
  unfold wpOpIn
  rw [ho]
  simp only
  have hw : Region.wanted o (yielded ops a.tmps) = true := by unfold Region.wanted; rw [M.guard]
  rw [hw, if_pos rfl]
  refine evOp_ok hc I.rel hops (M.run (tr s).cur) ro mm _ _ ?_
  intro e' w' v' r' s' hv
  have hv2 : v' = valR m (e'.phi (tr s).cur.next) := by
    have h1 := hv.eq
    rw [h1]
    cases m with
    | false => simp [valF, valR, newPtr, conc, cA]
    | true => simp [valF, valR, conc]
  have hhu := I.hu s (Nat.le_refl _)
  have hsub : ∀ b x, (tr s).cur.get b = some x → ((tr s).cur.new (blkF m z el)).get b = some x := fun b x hb => by
    have := (hhu.2 b x hb).1
    rw [Hp.get_new, if_neg (by omega)]; exact hb
  have hlow0 : (tr s).cur.low ≤ (tr s).cur.next := I.rel.low
  have hrel : Rel P (tr s).cur e w' := (r'.sub hsub hhu hlow0).env s'.agree
  have hst : Stp (tr s).cur e w (tr s).cur e w' := ⟨Nat.le_refl _, Agree.refl _ _, fun b x hb => .inl ⟨b, x, hb, rfl⟩, s'.keep, s'.size, s'.os, s'.tape, s'.output, rfl, fun _ _ => rfl⟩
  have hnew : ((tr s).cur.new (blkF m z el)).get (tr s).cur.next = some (blkF m z el) := by rw [Hp.get_new, if_pos rfl]
  have hr1 : w'.heap[e'.phi (tr s).cur.next]? = some (objF m z el) := by
    obtain ⟨_, hl⟩ := r'.lies _ _ hnew
    cases m with
    | false =>
      obtain ⟨cs, hr1, hr2⟩ := hl
      have hcs : cs = ⟨z⟩ := by
        have h1 : RC _ e' z cs.toList := hr2
        have h2 := h1.rl.2
        rw [← (M.cells ((tr s).cur.new (blkF false z el)).next e').rl.2] at h2
        cases cs
        simp only at h2
        rw [h2]
      rw [hcs] at hr1
      exact hr1
    | true =>
      obtain ⟨es, hr1, hr2⟩ := hl
      have hes : es = #[] := by
        have := hr2.1
        simpa using this
      rw [hes] at hr1
      exact hr1
  have hge : w.heap.size ≤ e'.phi (tr s).cur.next := by
    rcases s'.img _ _ hnew with ⟨c, y, h1, h2⟩ | h1
    · have h3 := (hhu.2 c y h1).1
      rw [← (s'.agree c h3).1] at h2
      have := r'.inj c _ y _ (hsub c y h1) hnew h2
      omega
    · exact h1
  have same : ∀ {o : Oper} {fr : Fr} {z z' : List Value} {el el' : TypeId} {m m' : Bool}, MakesRow P call o fr z el m → MakesRow P call o fr z' el' m' → m = m' ∧ objF m z el = objF m' z' el' := by
    intro o fr z z' el el' m m' M M'
    have h1 := M.run (tr s).cur
    rw [M'.run] at h1
    simp only [Option.some.injEq, Prod.mk.injEq] at h1
    have h2 : some (blkF m' z' el') = some (blkF m z el) := by
      have := congrArg (fun g : Hp => g.get (tr s).cur.next) h1.2
      simpa [Hp.get_new] using this
    cases m <;> cases m' <;> simp [blkF] at h2
    · obtain ⟨rfl, rfl⟩ := h2
      exact ⟨rfl, rfl⟩
    · exact ⟨rfl, rfl⟩
  obtain ⟨R, hR1, hR2⟩ := I.pend
  have hP : ∀ k, Pend ops (fun k => S k ∨ k = i) s k → k ≠ i → Pend ops S s k := fun k hk hki => ⟨hk.1.resolve_right hki, hk.2⟩
  refine hK _ _ s e ⟨I.sn, fun k hk ht => .inl (I.pre1 k hk ht), fun k hk ht hkf hSk => ?_, hrel, I.stp.trans hst, I.hu, I.grow, I.mono, fun k hk hSk => ?_,
    I.frame' T hN ho (Nat.le_refl _) (Agree.refl _ _) (fun k _ _ h _ => h) (fun h => by have := h hf; omega), ⟨fun k => if k = i then e'.phi (tr s).cur.next else R k, fun k k' hk hk' he => ?_, fun k hk => ?_⟩, ?_, ?_⟩
  · rcases hSk with h | rfl
    · exact I.pre2 k hk ht hkf h
    · exact absurd hf hkf
  · by_cases hki : k = i
    · subst hki
      rw [T.lvt k (T.fltTurns hf), hval, hcur]
      cases m <;> simp [valF, newPtr, Ev.under]
    · exact I.und k hk (hSk.resolve_right hki)
  · have lt : ∀ k, Pend ops (fun k => S k ∨ k = i) s k → k ≠ i → R k ≠ e'.phi (tr s).cur.next := fun k hk hki => by
      have := (hR2 k (hP k hk hki)).lt; omega
    simp only at he
    by_cases hki : k = i
    · by_cases hki' : k' = i
      · omega
      · rw [if_pos hki, if_neg hki'] at he
        exact absurd he.symm (lt k' hk' hki')
    · by_cases hki' : k' = i
      · rw [if_neg hki, if_pos hki'] at he
        exact absurd he (lt k hk hki)
      · rw [if_neg hki, if_neg hki'] at he
        exact hR1 k k' (hP k hk hki) (hP k' hk' hki') he
  · by_cases hki : k = i
    · subst hki
      simp only [if_true]
      refine ⟨fun ok z' el' m' hok M' => ?_, (Array.getElem?_eq_some_iff.1 hr1).1, Nat.le_trans I.stp.size hge, fun b x hb hc => ?_, fun ok z' el' m' d hok M' hd => ?_⟩
      · rw [ho] at hok
        cases hok
        obtain ⟨rfl, h2⟩ := same M M'
        rw [← h2]
        exact hr1
      · have := I.rel.lt hb; omega
      · rw [ho] at hok
        cases hok
        have hlt : d < a.tmps.size := by rw [I.size]; exact Nat.lt_of_lt_of_le (T.dst k o d ho hd) hN
        obtain ⟨rfl, _⟩ := same M M'
        rw [hd, hv2]
        simp [Act.put, hlt]
    · simp only [if_neg hki]
      exact (hR2 k (hP k hk hki)).go T ho hki hst
  · rw [Act.put_size]; exact I.size
  · rw [Act.put_defers']; exact I.defers

/-- the memory is turned -/
theorem Inv.turn (T : Tra P call ops ms bn tr val q lv N) (I : Inv P call ops ms bn tr val lv e0 w0 a0 S a w s e) (hN : N ≤ a0.tmps.size)
    (hS : ∀ i o, ops[i]? = some o → S i → ∀ x ∈ o.after, Region.binds .any x = true → S x.on)
    {i : Nat} {o : Oper} (ho : ops[i]? = some o) (hi : ¬ S i) (hf : ¬ Flt ops i) (hti : Turns tr i) (hnos : ∀ k, s ≤ k → k < i → ¬ Turns tr k) (hsi : s ≤ i) (hp : ∀ k, (MM ms i).testBit k = true → S k)
    {e' : Env} {w' : World} {v' : Value} {h' : Hp} {l : Nat} (hl1 : (tr s).cur.low ≤ l) (hcu : (tr (i + 1)).cur = ⟨h'.t, h'.next, (tr i).cur.low⟩) (r' : Rel P h' e' w') (s' : Stp ⟨(tr s).cur.t, (tr s).cur.next, l⟩ e w h' e' w')
    (hgr : barrier ops ms i = false → ∀ b x, ¬ Own ops ms bn i b → (tr s).cur.get b = some x → h'.get b = some x) (hval : RV h'.next e' (val i) v') :
    Inv P call ops ms bn tr val lv e0 w0 a0 (fun k => S k ∨ k = i) (a.put o.dst v') w' (i + 1) e' := by
  have hin : i < ops.size := (Array.getElem?_eq_some_iff.1 ho).1
  have hcs : (tr i).cur = (tr s).cur := T.same hsi (Nat.le_of_lt hin) hnos
  have hlow0 : (tr s).cur.low ≤ (tr s).cur.next := I.rel.low
  have hcu' : (tr (i + 1)).cur = ⟨h'.t, h'.next, (tr s).cur.low⟩ := by rw [hcu, hcs]
  have hst : Stp (tr s).cur e w (tr (i + 1)).cur e' w' := by rw [hcu']; exact s'.lower hl1
  have hrel' : Rel P (tr (i + 1)).cur e' w' := by
    rw [hcu']
    exact r'.lower (Nat.le_trans hlow0 s'.next)
  have hnx : (tr (i + 1)).cur.next = h'.next := by rw [hcu']
  have hsame : ∀ j, s ≤ j → j ≤ i → (tr j).cur = (tr s).cur := fun j h1 h2 => T.same h1 (by omega) fun x h3 h4 => hnos x h3 (by omega)
  obtain ⟨R, hR1, hR2⟩ := I.pend
  have hP : ∀ k, Pend ops (fun k => S k ∨ k = i) (i + 1) k → Pend ops S s k ∧ k ≠ i := fun k hk => by
    have hki : k ≠ i := by rintro rfl; exact hf hk.2.1
    exact ⟨⟨hk.1.resolve_right hki, hk.2.1, by have := hk.2.2; omega⟩, hki⟩
  refine ⟨hin, fun k hk ht => ?_, fun k hk ht hkf hSk => ?_, hrel', I.stp.trans hst, fun j hj => ?_, fun k hk ht hb b x hown hgx => ?_, fun k hk => ?_, fun k hk hSk => ?_,
    I.frame' T hN ho hst.next hst.agree (fun k hkf hki hk _ => ?_) (fun _ => by rw [hnx]; exact hval), ⟨R, fun k k' hk hk' => hR1 k k' (hP k hk).1 (hP k' hk').1, fun k hk => (hR2 k (hP k hk).1).go T ho (hP k hk).2 hst⟩, ?_, ?_⟩
  · rcases Nat.lt_trichotomy k i with h | h | h
    · exact .inl (hp k (T.chain hin h hti hf ht))
    · exact .inr h
    · omega
  · rcases hSk with h | rfl
    · rcases Nat.lt_trichotomy k i with h2 | h2 | h2
      · omega
      · omega
      · exact absurd (T.D.closed hS k i hk h (T.chain hk h2 ht hkf hti)) hi
    · omega
  · rcases Nat.lt_or_ge i j with h | h
    · have : j = i + 1 := by omega
      subst this
      exact hrel'.hu
    · rcases Nat.lt_or_ge s j with h2 | h2
      · rw [hsame j (by omega) h]; exact I.hu s (Nat.le_refl _)
      · exact I.hu j h2
  · rcases Nat.lt_or_ge k s with h | h
    · exact I.grow k h ht hb b x hown hgx
    · rcases Nat.lt_or_ge k i with h2 | h2
      · exact absurd ht (hnos k h h2)
      · have : k = i := by omega
        subst this
        rw [hcs] at hgx
        rw [hcu']
        exact hgr hb b x hown hgx
  · rcases Nat.lt_or_ge k s with h | h
    · exact I.mono k h
    · rcases Nat.lt_or_ge k i with h2 | h2
      · rw [hsame k h (by omega), hsame (k + 1) (by omega) (by omega)]; exact Nat.le_refl _
      · have : k = i := by omega
        subst this
        rw [hcs]; exact hst.next
  · by_cases hki : k = i
    · subst hki
      rw [T.lvt k hti, hnx]
      exact hval.under
    · exact I.und k hk (hSk.resolve_right hki)
  · rcases Nat.lt_or_ge k s with h | h
    · exact h
    · exact absurd (T.fltTurns hkf) (hnos k h (by omega))
  · rw [Act.put_size]; exact I.size
  · rw [Act.put_defers']; exact I.defers

/-- one operation more -/
theorem Inv.step (T : Tra P call ops ms bn tr val q lv N) (hc : CallOK P call) (I : Inv P call ops ms bn tr val lv e0 w0 a0 S a w s e) (hN : N ≤ a0.tmps.size)
    (hS : ∀ i o, ops[i]? = some o → S i → ∀ x ∈ o.after, Region.binds .any x = true → S x.on)
    {i : Nat} {o : Oper} (ho : ops[i]? = some o) (hi : ¬ S i) (hr : ∀ x ∈ o.after, Region.binds .any x = true → S x.on) {K : Act → World → Prop} {Q : Exit → Act → World → Prop} {ro : Option Nat} {m : Nat}
    (hK : ∀ a' w' s' e', Inv P call ops ms bn tr val lv e0 w0 a0 (fun k => S k ∨ k = i) a' w' s' e' → K a' w') : wpOpIn (WF ro) m P ops Q i K a w := by
  have hin : i < ops.size := (Array.getElem?_eq_some_iff.1 ho).1
  have hp : ∀ k, (MM ms i).testBit k = true → S k := by
    intro k hk
    obtain ⟨x, hx, hb, h⟩ := (T.D.bit i o ho k).1 hk
    have hlt := T.D.on_lt i o ho x hx hb
    rcases h with rfl | h
    · exact hr x hx hb
    · exact T.D.closed hS x.on k (by omega) (hr x hx hb) h
  by_cases hf : Flt ops i
  · have hq0 := T.still0 hf
    have hqs : q i ≤ s := by omega
    have hsees := fun {t} => I.sees T hS ho hi hp hqs (t := t)
    refine I.float T hc hN ho hi hf (fun x hx => ?_) hK
    have h1 : LK (tr (q i)).cur.next e (tr i).fr a x := by
      refine LK.of ⟨(I.hu (q i) hqs).1, I.rel.glob.fix⟩ fun t ht => hsees ?_
      subst ht
      unfold Oper.looksAt
      exact List.mem_append_left _ (List.mem_filterMap.2 ⟨.tmp t, by simpa using hx, rfl⟩)
    exact fun v hv => (h1 v hv).mono (I.le hqs (Nat.le_refl _)) (Agree.refl _ _)
  obtain ⟨s, e, I, hqs, hpre⟩ := I.ready T hin hf hp
  have hsees := fun {t} => I.sees T hS ho hi hp hqs (t := t)
  have F := T.fact i o ho
  have hff := hf
  rw [flt_iff ho] at hff
  have hlow0 : (tr s).cur.low ≤ (tr s).cur.next := I.rel.low
  unfold wpOpIn
  rw [ho]
  simp only
  rcases F.how with ⟨hw, hv, _, _, hst⟩ | ⟨hw, hcase⟩
  · rw [wanted_ok (fun t ht => hsees ht) hw, if_neg (by simp)]
    refine ⟨fun f _ => WF.fn ro f, ?_⟩
    refine hK _ _ s e ?_
    exact I.still T hN ho hf hqs (v' := undef) (w' := w) (Stays.not hst) I.rel (Stp.refl _ _ _) (by rw [hv]; exact RV.undef)
  · rw [wanted_ok (fun t ht => hsees ht) hw, if_pos rfl]
    have hg := T.qcur i hin
    have hops0 : ∀ x ∈ o.op.operands, LK (tr (q i)).cur.next e (tr i).fr a x := by
      intro x hx
      refine LK.of ⟨(I.hu (q i) hqs).1, I.rel.glob.fix⟩ fun t ht => hsees ?_
      subst ht
      unfold Oper.looksAt
      exact List.mem_append_left _ (List.mem_filterMap.2 ⟨.tmp t, by simpa using hx, rfl⟩)
    -- what is known where the memory is turned
    have turned : Turns tr i → (∀ k, s ≤ k → k < i → ¬ Turns tr k) ∧ s ≤ i ∧ (tr i).cur = (tr s).cur ∧ (tr (q i)).cur = (tr s).cur := fun hti => by
      have hnos : ∀ k, s ≤ k → k < i → ¬ Turns tr k := fun k h1 h2 ht => by
        have := hpre hti k h2 ht
        omega
      have hsi : s ≤ i := by
        rcases Nat.lt_or_ge i s with h | h
        · exact absurd (I.pre1 i h hti) hi
        · exact h
      have hcs : (tr i).cur = (tr s).cur := T.same hsi (Nat.le_of_lt hin) hnos
      have hcq : (tr i).cur = (tr (q i)).cur := T.same (T.qle i hin) (Nat.le_of_lt hin) fun k h1 h2 ht => by
        have := T.qno i hin k ht h1 h2
        rw [T.chain hin h2 hti hf ht] at this
        cases this
      exact ⟨hnos, hsi, hcs, hcq.symm.trans hcs⟩
    rcases hcase with ⟨_, h', he, _, hcase⟩ | ⟨h', he, hcu, hhi, hcase⟩
    · have hview : (viewD (stOf ops ms bn i o) (gOf ms tr i)).next = (tr (q i)).cur.next := by rw [hg]; rfl
      have hops : ∀ x ∈ o.op.operands, LK (viewD (stOf ops ms bn i o) (gOf ms tr i)).next e (tr i).fr a x := by rw [hview]; exact hops0
      rcases hcase with ⟨hn', hhb, hst⟩ | ⟨hh, _, hban, hcu, hhi⟩
      · -- nothing is turned
        have hlow : (viewD (stOf ops ms bn i o) (gOf ms tr i)).low = (viewD (stOf ops ms bn i o) (gOf ms tr i)).next := by
          show (bif heapy o.op && barrier ops ms i then (gOf ms tr i).low else (gOf ms tr i).next) = (gOf ms tr i).next
          rcases hhb with h | h <;> rw [h] <;> simp
        have hget : ∀ b x, (viewD (stOf ops ms bn i o) (gOf ms tr i)).get b = some x → heapy o.op = true ∧ (without (tr (q i)).cur.t (banOf ms i bn)).get b = some x := by
          intro b x hb
          have hb : (bif heapy o.op then without (gOf ms tr i).t (banOf ms i bn) else .leaf).get b = some x := hb
          cases hh : heapy o.op with
          | true =>
            rw [hh, hg] at hb
            exact ⟨rfl, hb⟩
          | false =>
            rw [hh] at hb
            cases hb
        have hs : ∀ b x, (viewD (stOf ops ms bn i o) (gOf ms tr i)).get b = some x → (tr s).cur.get b = some x := fun b x hb =>
          I.part T hS ho hi (hget b x hb).1 hqs (Nat.le_refl _) b x (hget b x hb).2
        have hu : HU (viewD (stOf ops ms bn i o) (gOf ms tr i)) := ⟨by rw [hview]; exact (I.hu (q i) hqs).1, fun b x hb => by
          rw [hview]
          have h1 := (hget b x hb).2
          rw [get_without] at h1
          split at h1
          · cases h1
          · exact (I.hu (q i) hqs).2 b x h1⟩
        have hrel := I.rel.sub hs hu (Nat.le_of_eq hlow)
        refine evOp_ok hc hrel hops he ro m _ _ ?_
        intro e' w' v' r' s' hv
        have hn'' : h'.next = (viewD (stOf ops ms bn i o) (gOf ms tr i)).next := hn'
        obtain ⟨h1, h2⟩ := I.rel.side hs hu hlow (by rw [hview]; exact I.le hqs (Nat.le_refl _)) r' s' hn''
        refine hK _ _ s e (I.still T hN ho hf hqs (Stays.not hst) h1 h2 ?_)
        rw [hn''] at hv
        have := hv.mono (Nat.le_refl _) s'.agree.symm
        rw [hview] at this
        exact this
      · -- the memory is turned
        obtain ⟨hnos, hsi, hcs, hcq⟩ := turned hhi
        obtain ⟨l, hl1, hl2, hl3, hv⟩ : ∃ l, (tr s).cur.low ≤ l ∧ l ≤ (tr s).cur.next ∧ (barrier ops ms i = false → l = (tr s).cur.next) ∧
            viewD (stOf ops ms bn i o) (gOf ms tr i) = ⟨(tr s).cur.t, (tr s).cur.next, l⟩ := by
          refine ⟨bif barrier ops ms i then (tr s).cur.low else (tr s).cur.next, ?_, ?_, ?_, ?_⟩
          · cases barrier ops ms i <;> simp [hlow0]
          · cases barrier ops ms i <;> simp [hlow0]
          · intro h; rw [h]; rfl
          · show (⟨bif heapy o.op then without (gOf ms tr i).t (banOf ms i bn) else .leaf, (gOf ms tr i).next, bif heapy o.op && barrier ops ms i then (gOf ms tr i).low else (gOf ms tr i).next⟩ : Hp) = _
            rw [hh, hban, hg, hcq]
            simp only [cond_true, Bool.true_and, without]
        rw [hv] at he hops
        have hrel := I.rel.lower hl2
        refine evOp_ok hc hrel hops he ro m _ _ ?_
        intro e' w' v' r' s' hval
        refine hK _ _ (i + 1) e' (I.turn T hN hS ho hi hf hhi hnos hsi hp hl1 hcu r' s' (fun hb b x _ hgx => ?_) hval)
        have hbn := ((I.hu s (Nat.le_refl _)).2 b x hgx).1
        have h5 := s'.prot b (by show b < l; rw [hl3 hb]; exact hbn)
        exact h5.trans hgx
    · -- a row is made, or only its own row is written
      rcases hcase with h4 | ⟨_, hh, _, hban, t, x, y, ad, hop, hlx, hown⟩
      · exact absurd h4.1 hff
      · obtain ⟨hnos, hsi, hcs, hcq⟩ := turned hhi
        rw [hcs] at he
        have hops : ∀ x ∈ o.op.operands, LK (tr s).cur.next e (tr i).fr a x := by rw [← hcq]; exact hops0
        refine evOp_ok hc I.rel hops he ro m _ _ ?_
        intro e' w' v' r' s' hval
        refine hK _ _ (i + 1) e' (I.turn T hN hS ho hi hf hhi hnos hsi hp (Nat.le_refl _) hcu r' s' (fun hb b x' hno hgx => ?_) hval)
        have hstore : oStore t x y P call (tr i).fr (tr s).cur = some (val i, h') := by
          unfold evOp at he
          rw [hop] at he
          exact he
        unfold oStore at hstore
        rw [hlx] at hstore
        split at hstore
        · rename_i ad' vv e1 e2
          cases e1
          split at hstore
          · cases hstore
          · rename_i h2 hs2
            simp only [Option.some.injEq, Prod.mk.injEq] at hstore
            rw [← hstore.2]
            have hbne : b ≠ ad.block := by
              rintro rfl
              exact hno ⟨o, ho, hown⟩
            rw [(storeA_own hs2).2.2 b hbne]
            exact hgx
        · cases hstore

end
end Go.Ev
namespace Go.Ev
variable {P : Program}
section
variable {call : CallF} {ops : Array Oper} {ms : List Nat} {bn : List (Nat × Nat)} {tr : Nat → DS} {val : Nat → Value} {q lv : Nat → Nat} {N : Nat}

def Listed (l : Array Bool) (k : Nat) : Prop := l.getD k false = true

theorem Listed.set {l : Array Bool} {i : Nat} (hi : i < l.size) : Listed (l.setIfInBounds i true) = fun k => Listed l k ∨ k = i := by
  funext k
  unfold Listed
  apply propext
  by_cases hk : i = k
  · subst hk
    simp [hi]
  · rw [getD_set_ne false hk]
    constructor
    · exact .inl
    · rintro (h | h)
      · exact h
      · exact absurd h.symm hk

theorem getD_tf {l : Array Bool} {i : Nat} (hi : i < l.size) : l.getD i true = l.getD i false := by
  simp [hi]

theorem count_set {l : Array Bool} {i : Nat} (hi : i < l.size) (hf : l.getD i false = false) : (l.setIfInBounds i true).toList.count false + 1 = l.toList.count false := by
  have hl : i < l.toList.length := by simpa using hi
  have hv : l.toList[i] = false := by
    rw [Array.getElem_toList]
    simpa [hi] using hf
  rw [Array.toList_setIfInBounds, List.count_set hl, hv]
  have : 0 < l.toList.count false := List.count_pos_iff.2 (by rw [← hv]; exact List.getElem_mem hl)
  have e1 : (if (false == false) = true then 1 else 0) = 1 := rfl
  have e2 : (if (true == false) = true then 1 else 0) = 0 := rfl
  rw [e1, e2]
  omega

theorem Inv.all (T : Tra P call ops ms bn tr val q lv N) (hc : CallOK P call) {e0 : Env} {w0 : World} {a0 : Act} (hN : N ≤ a0.tmps.size) {Q : Exit → Act → World → Prop} {ro : Option Nat} {m : Nat}
    (hQ : ∀ e a w, Rel P (tr ops.size).cur e w → Stp (tr 0).cur e0 w0 (tr ops.size).cur e w → RF (tr ops.size).cur.next e (tr ops.size).fr a → a.tmps.size = a0.tmps.size → a.defers = a0.defers → Q .normal a w) :
    ∀ (fuel : Nat) (l : Array Bool) (a : Act) (w : World) (s : Nat) (e : Env), l.size = ops.size → l.toList.count false ≤ fuel →
      (∀ i o, ops[i]? = some o → Listed l i → ∀ x ∈ o.after, Region.binds .any x = true → Listed l x.on) →
      Inv P call ops ms bn tr val lv e0 w0 a0 (Listed l) a w s e → wpAnyIn (WF ro) m P .any ops Q fuel l a w := by
  -- where all are listed
  have fin : ∀ (l : Array Bool) (a : Act) (w : World) (s : Nat) (e : Env), (∀ i, i < ops.size → Listed l i) → Inv P call ops ms bn tr val lv e0 w0 a0 (Listed l) a w s e → Q .normal a w := by
    intro l a w s e hall I
    obtain ⟨s, e, I, hpre⟩ := I.absorb T ops.size (Nat.le_refl _) fun k hk _ => hall k hk
    have hsame : (tr ops.size).cur = (tr s).cur := T.same I.sn (Nat.le_refl _) fun x h1 h2 ht => by
      have := hpre x h2 ht
      omega
    refine hQ e a w (by rw [hsame]; exact I.rel) (by rw [hsame]; exact I.stp) ⟨by rw [hsame]; exact I.rel.glob, fun t v hv => ?_⟩ I.size I.defers
    rw [hsame]
    rcases T.frame (Nat.le_refl _) hv with ⟨k, o, hk, ho, hd, hvk⟩ | ⟨hno, h0⟩
    · exact I.frame t v (.inl ⟨k, o, hall k hk, fun hf => hpre k hk (T.fltTurns hf), ho, hd, hvk⟩)
    · exact I.frame t v (.inr ⟨fun k o _ ho => hno k o (Array.getElem?_eq_some_iff.1 ho).1 ho, h0⟩)
  have ready_nil : ∀ l : Array Bool, l.size = ops.size → Region.ready .any ops l = [] → ∀ i, i < ops.size → Listed l i := by
    intro l hl hr i
    induction i using Nat.strongRecOn with
    | _ i ih =>
      intro hi
      obtain ⟨o, ho⟩ := some_of hi
      cases hc : l.getD i false with
      | true => exact hc
      | false =>
        have : i ∈ Region.ready .any ops l := mem_ready.2 ⟨by rw [getD_tf (by omega)]; exact hc, o, ho, fun x hx hb => ih x.on (T.D.on_lt i o ho x hx hb) (by have := T.D.on_lt i o ho x hx hb; omega)⟩
        rw [hr] at this
        cases this
  intro fuel
  induction fuel with
  | zero =>
    intro l a w s e hl hcnt hS I
    have hall : ∀ i, i < ops.size → Listed l i := by
      intro i hi
      cases hc : l.getD i false with
      | true => exact hc
      | false =>
        have hil : i < l.toList.length := by simp; omega
        have h1 : l.toList[i] = false := by rw [Array.getElem_toList]; simpa [show i < l.size by omega] using hc
        have : 0 < l.toList.count false := List.count_pos_iff.2 (by rw [← h1]; exact List.getElem_mem hil)
        omega
    refine ⟨?_, fin l a w s e hall I⟩
    cases hr : Region.ready .any ops l with
    | nil => rfl
    | cons x xs =>
      have hx : x ∈ Region.ready .any ops l := by rw [hr]; exact List.mem_cons_self ..
      obtain ⟨h1, o, ho, _⟩ := mem_ready.1 hx
      have hxn : x < ops.size := (Array.getElem?_eq_some_iff.1 ho).1
      rw [getD_tf (by omega)] at h1
      have := hall x hxn
      unfold Listed at this
      rw [h1] at this
      cases this
  | succ fuel ih =>
    intro l a w s e hl hcnt hS I
    refine ⟨fun hr => fin l a w s e (ready_nil l hl hr) I, fun i hi => ?_⟩
    obtain ⟨h1, o, ho, hpre⟩ := mem_ready.1 hi
    have hin : i < ops.size := (Array.getElem?_eq_some_iff.1 ho).1
    have hil : i < l.size := by omega
    rw [getD_tf hil] at h1
    refine I.step T hc hN hS ho (by unfold Listed; rw [h1]; simp) hpre ?_
    intro a' w' s' e' I'
    rw [← Listed.set hil] at I'
    refine ih _ a' w' s' e' (by simpa using hl) (by have := count_set hil h1; omega) (fun k ok hok hk x hx hb => ?_) I'
    rw [Listed.set hil] at hk ⊢
    rcases hk with hk | rfl
    · exact .inl (hS k ok hok hk x hx hb)
    · rw [ho] at hok
      cases hok
      exact .inl (hpre x hx hb)

end

theorem plan_get {ops : Array Oper} {ms : List Nat} {bn : List (Nat × Nat)} {i : Nat} {o : Oper} (h : ops[i]? = some o) : (plan ops ms bn)[i]? = some (stOf ops ms bn i o) := by
  unfold plan
  rw [List.getElem?_map, List.getElem?_zipIdx, Array.getElem?_toList, h]
  simp [MM, stOf]
theorem plan_length {ops : Array Oper} {ms : List Nat} {bn : List (Nat × Nat)} : (plan ops ms bn).length = ops.size := by simp [plan]

theorem evDraw_any {call : CallF} (hc : CallOK P call) {ops : Array Oper} {Q : Exit → Act → World → Prop} {ro : Option Nat} {m : Nat} {N : Nat} (hd : dstOk N ops.toList = true)
    {fr fr' : Fr} {h h' : Hp} {e : Env} {w : World} {a : Act} (he : evDraw P call ops (masks ops.toList []) fr h = some (fr', h')) (r : Rel P h e w) (hf : RF h.next e fr a) (hN : N ≤ a.tmps.size)
    (hk : ∀ e' w' a', Rel P h' e' w' → Stp h e w h' e' w' → RF h'.next e' fr' a' → a'.tmps.size = a.tmps.size → a'.defers = a.defers → Q .normal a' w') :
    wpAnyIn (WF ro) m P .any ops Q ops.size (Array.replicate ops.size false) a { w with drawn := w.drawn + 1 } := by
  classical
  unfold evDraw at he
  cases hdr : drawOk ops (masks ops.toList []) with
  | false => rw [hdr] at he; cases he
  | true =>
    rw [hdr, cond_true] at he
    have D := drawOk_spec hdr
    generalize findD P call ops (masks ops.toList []) fr h = bn at *
    generalize masks ops.toList [] = ms at *
    split at he
    · cases he
    rename_i st hst
    simp only [Option.some.injEq, Prod.mk.injEq] at he
    obtain ⟨tr, h0, hn, hstep⟩ := evD_trace _ _ _ hst
    rw [plan_length] at hn
    have hfact : ∀ (i : Nat), ∃ v, ∀ (o : Oper), ops[i]? = some o → Fact P call ops ms bn tr i o v := by
      intro i
      cases ho : ops[i]? with
      | none => exact ⟨undef, fun o h => by cases h⟩
      | some o =>
        obtain ⟨v, hv⟩ := stepD_fact (hstep i _ (plan_get ho))
        exact ⟨v, fun o' h => by cases h; exact hv⟩
    have hTS : ∀ i, i < ops.size → Turns tr i ∨ Stays tr i := by
      intro i hi
      obtain ⟨o, ho⟩ := some_of hi
      obtain ⟨v, hv⟩ := hfact i
      rcases (hv o ho).how with ⟨_, _, _, _, h1, h2⟩ | ⟨_, ⟨_, h', _, _, ⟨_, _, h1, h2⟩ | ⟨_, _, _, _, h2⟩⟩ | ⟨h', _, _, h2, _⟩⟩
      · exact .inr ⟨h1, h2⟩
      · exact .inr ⟨h1, h2⟩
      · exact .inl h2
      · exact .inl h2
    have hq : ∀ i, ∃ q, i < ops.size → q ≤ i ∧ gOf ms tr i = (tr q).cur ∧ (∀ k, Turns tr k → q ≤ k → k < i → (MM ms i).testBit k = false) ∧ (q = 0 ∨ (Turns tr (q - 1) ∧ (MM ms i).testBit (q - 1) = true)) := by
      intro i
      by_cases hi : i < ops.size
      · obtain ⟨q, h1⟩ := back_spec hTS (by rw [h0]) (MM ms i) i (Nat.le_of_lt hi)
        exact ⟨q, fun _ => h1⟩
      · exact ⟨0, fun h => absurd h hi⟩
    obtain ⟨val, hval⟩ := Classical.axiomOfChoice hfact
    obtain ⟨q, hq⟩ := Classical.axiomOfChoice hq
    have hlow : ∀ i, i ≤ ops.size → (tr i).cur.low = (tr 0).cur.low := by
      intro i
      induction i with
      | zero => exact fun _ => rfl
      | succ i ih =>
        intro hi
        obtain ⟨o, ho⟩ := some_of (ops := ops) (i := i) (by omega)
        rcases (hval i o ho).how with ⟨_, _, _, _, h1, h2⟩ | ⟨_, ⟨_, h', _, _, ⟨_, _, h1, h2⟩ | ⟨_, _, _, h1, h2⟩⟩ | ⟨h', _, h1, h2, _⟩⟩
        · rw [h1]; exact ih (by omega)
        · rw [h1]; exact ih (by omega)
        · rw [h1]; exact ih (by omega)
        · rw [h1]; exact ih (by omega)
    have T : Tra P call ops ms bn tr val q (fun i => if Turns tr i then i + 1 else q i) N :=
      { D := D, fact := hval, hist := by rw [h0], qle := fun i hi => (hq i hi).1, qcur := fun i hi => (hq i hi).2.1, qno := fun i hi => (hq i hi).2.2.1, qyes := fun i hi => (hq i hi).2.2.2,
        lvt := fun i ht => if_pos ht, lvs := fun i ht => if_neg ht, low := hlow,
        dst := fun i o t ho hd' => by
          unfold dstOk at hd
          rw [List.all_eq_true] at hd
          have := hd o (by rw [Array.mem_toList_iff]; exact Array.mem_of_getElem? ho)
          rw [hd'] at this
          simp only at this
          rwa [Nat.blt_eq] at this
        low0 := by rw [h0]; exact r.low
        und0 := fun t v hv => by
          rw [h0] at hv ⊢
          obtain ⟨v', _, h2⟩ := hf.vals t v hv
          exact h2.under }
    have I : Inv P call ops ms bn tr val (fun i => if Turns tr i then i + 1 else q i) e { w with drawn := w.drawn + 1 } a (Listed (Array.replicate ops.size false)) a { w with drawn := w.drawn + 1 } 0 e := by
      have hno : ∀ k, ¬ Listed (Array.replicate ops.size false) k := by
        intro k hk
        unfold Listed at hk
        simp [Array.getElem?_replicate] at hk
        split at hk <;> simp at hk
      refine ⟨Nat.zero_le _, fun k hk _ => absurd hk (Nat.not_lt_zero _), fun k _ _ _ h => absurd h (hno k), ?_, Stp.refl _ _ _, fun j hj => ?_, fun k hk => absurd hk (Nat.not_lt_zero _), fun k hk => absurd hk (Nat.not_lt_zero _),
        fun k _ h => absurd h (hno k), fun t v h => ?_, ⟨fun _ => 0, fun k _ hk => absurd hk.1 (hno k), fun k hk => absurd hk.1 (hno k)⟩, rfl, rfl⟩
      · rw [h0]; exact r.draw _
      · have : j = 0 := by omega
        subst this
        rw [h0]; exact r.hu
      · rcases h with ⟨k, o, hk, _⟩ | ⟨_, h1⟩
        · exact absurd hk (hno k)
        · rw [h0] at h1 ⊢
          exact hf.vals t v h1
    refine Inv.all T hc hN ?_ ops.size _ a _ 0 e (by simp) (by simp [List.count_replicate]) (fun i o ho hi => ?_) I
    · intro e' a' w' h1 h2 h3 h4 h5
      rw [hn] at h1 h2 h3
      rw [h0] at h2
      rw [he.2] at h1 h2 h3
      rw [he.1] at h3
      exact hk e' w' a' h1 ((Stp.draw h e w _).trans h2) h3 h4 h5
    · unfold Listed at hi
      simp [Array.getElem?_replicate] at hi
      split at hi <;> simp at hi

theorem evDraw_ok {call : CallF} (hm : P.follows .mixedOrders = true) (hc : CallOK P call) {ops : Array Oper} {Q : Exit → Act → World → Prop} {ro : Option Nat} {m : Nat} {N id : Nat} (hd : dstOk N ops.toList = true)
    {fr fr' : Fr} {h h' : Hp} {e : Env} {w : World} {a : Act} (he : evDraw P call ops (masks ops.toList []) fr h = some (fr', h')) (r : Rel P h e w) (hf : RF h.next e fr a) (hN : N ≤ a.tmps.size)
    (hk : ∀ e' w' a', Rel P h' e' w' → Stp h e w h' e' w' → RF h'.next e' fr' a' → a'.tmps.size = a.tmps.size → a'.defers = a.defers → Q .normal a' w') :
    (Code.region id ops true).wpIn (WF ro) m P Q a w := wpIn_region_any hm (evDraw_any hc hd he r hf hN hk)

end Go.Ev
namespace Go.Ev
variable {P : Program}

/-- what the check of a turned region says -/
structure Turned (ops : Array Oper) (p : List Nat) : Prop where
  len : p.length = ops.size
  at1 : ∀ i, i < ops.size → placeO p i < ops.size ∧ p[placeO p i]? = some i
  at2 : ∀ j i, p[j]? = some i → i < ops.size ∧ placeO p i = j
  on : ∀ (i : Nat) (o : Oper), ops[i]? = some o → (∀ e ∈ o.after, e.on < ops.size) ∧ ∀ g, o.guard = some g → g.1 < ops.size
theorem permOk_spec {ops : Array Oper} {p : List Nat} (h : permOk ops p = true) : Turned ops p := by
  unfold permOk at h
  rw [Bool.and_eq_true, Bool.and_eq_true, Bool.and_eq_true] at h
  obtain ⟨⟨⟨h1, h2⟩, h3⟩, h4⟩ := h
  rw [List.all_eq_true] at h2 h3 h4
  refine ⟨Nat.eq_of_beq_eq_true h1, fun i hi => ?_, fun j i hj => ?_, fun i o ho => ?_⟩
  · have hm : (ops[i], i) ∈ ops.toList.zipIdx := by
      rw [List.mem_zipIdx_iff_getElem?]
      simp [hi]
    have := h2 _ hm
    rw [Bool.and_eq_true, Nat.blt_eq] at this
    refine ⟨this.1, ?_⟩
    have h := this.2
    split at h
    · rename_i k hk
      rw [hk, Nat.eq_of_beq_eq_true h]
    · cases h
  · have hm : (i, j) ∈ p.zipIdx := by
      rw [List.mem_zipIdx_iff_getElem?]
      exact hj
    have := h3 _ hm
    rw [Bool.and_eq_true, Nat.blt_eq] at this
    exact ⟨this.1, Nat.eq_of_beq_eq_true this.2⟩
  · have := h4 o (by rw [Array.mem_toList_iff]; exact Array.mem_of_getElem? ho)
    rw [Bool.and_eq_true, List.all_eq_true] at this
    refine ⟨fun e he => ?_, fun g hg => ?_⟩
    · have h := this.1 e (by rw [Array.mem_toList_iff]; exact he)
      rwa [Nat.blt_eq] at h
    · have h := this.2
      rw [hg] at h
      simp only at h
      rwa [Nat.blt_eq] at h

variable {ops : Array Oper} {p : List Nat}
theorem turnO_size (T : Turned ops p) : (turnO ops p).size = ops.size := by
  have := T.len
  simp [turnO, this]
theorem turnO_get (T : Turned ops p) {i : Nat} {o : Oper} (ho : ops[i]? = some o) : (turnO ops p)[placeO p i]? = some (renO p o) := by
  have hi := (Array.getElem?_eq_some_iff.1 ho).1
  have h := (T.at1 i hi).2
  unfold turnO
  simp only [List.getElem?_toArray, List.getElem?_map, h, Option.map_some]
  unfold atO
  rw [Array.getElem?_toList, ho]
theorem turnO_inv (T : Turned ops p) {j : Nat} {o' : Oper} (ho : (turnO ops p)[j]? = some o') : ∃ i o, ops[i]? = some o ∧ placeO p i = j ∧ o' = renO p o := by
  have hj : j < (turnO ops p).size := (Array.getElem?_eq_some_iff.1 ho).1
  have hjl : j < p.length := by rw [turnO_size T] at hj; rw [T.len]; exact hj
  obtain ⟨hi, hpl⟩ := T.at2 j p[j] (List.getElem?_eq_getElem hjl)
  obtain ⟨o, hoo⟩ := some_of hi
  have := turnO_get T hoo
  rw [hpl, ho] at this
  exact ⟨p[j], o, hoo, hpl, Option.some.inj this⟩

theorem yielded_turn (T : Turned ops p) {j : Nat} (hj : j < ops.size) (tmps : Array Value) : yielded (turnO ops p) tmps (placeO p j) = yielded ops tmps j := by
  obtain ⟨o, ho⟩ := some_of hj
  unfold yielded
  rw [turnO_get T ho, ho]
  rfl
theorem wanted_turn (T : Turned ops p) {i : Nat} {o : Oper} (ho : ops[i]? = some o) (tmps : Array Value) : Region.wanted (renO p o) (yielded (turnO ops p) tmps) = Region.wanted o (yielded ops tmps) := by
  have hon := (T.on i o ho).2
  unfold Region.wanted
  cases hg : o.guard with
  | none =>
    have : (renO p o).guard = none := by unfold renO; rw [hg]
    rw [this]
  | some g =>
    have : (renO p o).guard = some (placeO p g.1, g.2) := by unfold renO; rw [hg]
    rw [this]
    simp only
    rw [yielded_turn T (hon g hg)]

variable {Q : Exit → Act → World → Prop} {F : Fence} {n : Nat}
theorem wpAnyIn_turn (T : Turned ops p) : ∀ (fuel : Nat) (l l' : Array Bool) (a : Act) (w : World), l.size = ops.size → l'.size = ops.size → (∀ i, i < ops.size → l'.getD (placeO p i) false = l.getD i false) →
    wpAnyIn F n P .any (turnO ops p) Q fuel l' a w → wpAnyIn F n P .any ops Q fuel l a w := by
  have R1 : ∀ (l l' : Array Bool), l.size = ops.size → l'.size = ops.size → (∀ i, i < ops.size → l'.getD (placeO p i) false = l.getD i false) → ∀ i, i ∈ Region.ready .any ops l → placeO p i ∈ Region.ready .any (turnO ops p) l' := by
    intro l l' hl hl' hll i hi
    obtain ⟨h1, o, ho, h2⟩ := mem_ready.1 hi
    have hin := (Array.getElem?_eq_some_iff.1 ho).1
    have hpl := (T.at1 i hin).1
    refine mem_ready.2 ⟨?_, renO p o, turnO_get T ho, fun x hx hb => ?_⟩
    · rw [getD_tf (by omega)] at h1 ⊢
      rw [hll i hin]; exact h1
    · have hx' : x ∈ o.after.toList.map fun e => { e with on := placeO p e.on } := by
        have : x ∈ (renO p o).after.toList := by rw [Array.mem_toList_iff]; exact hx
        exact this
      obtain ⟨e, he, rfl⟩ := List.mem_map.1 hx'
      rw [Array.mem_toList_iff] at he
      rw [hll e.on ((T.on i o ho).1 e he)]
      exact h2 e he hb
  have R2 : ∀ (l l' : Array Bool), l.size = ops.size → l'.size = ops.size → (∀ i, i < ops.size → l'.getD (placeO p i) false = l.getD i false) → ∀ j, j ∈ Region.ready .any (turnO ops p) l' → ∃ i, i ∈ Region.ready .any ops l := by
    intro l l' hl hl' hll j hj
    obtain ⟨h1, o', ho', h2⟩ := mem_ready.1 hj
    obtain ⟨i, o, ho, rfl, rfl⟩ := turnO_inv T ho'
    have hin := (Array.getElem?_eq_some_iff.1 ho).1
    have hpl := (T.at1 i hin).1
    refine ⟨i, mem_ready.2 ⟨?_, o, ho, fun e he hb => ?_⟩⟩
    · rw [getD_tf (by omega)] at h1 ⊢
      rw [← hll i hin]; exact h1
    · rw [← hll e.on ((T.on i o ho).1 e he)]
      refine h2 { e with on := placeO p e.on } ?_ hb
      have : ({ e with on := placeO p e.on } : Edge) ∈ (renO p o).after.toList := List.mem_map.2 ⟨e, by rw [Array.mem_toList_iff]; exact he, rfl⟩
      rwa [Array.mem_toList_iff] at this
  intro fuel
  induction fuel with
  | zero =>
    intro l l' a w hl hl' hll h
    refine ⟨?_, h.2⟩
    cases hr : Region.ready .any ops l with
    | nil => rfl
    | cons i is =>
      have := R1 l l' hl hl' hll i (by rw [hr]; exact List.mem_cons_self ..)
      rw [h.1] at this
      cases this
  | succ fuel ih =>
    intro l l' a w hl hl' hll h
    refine ⟨fun hr => h.1 ?_, fun i hi => ?_⟩
    · cases hr' : Region.ready .any (turnO ops p) l' with
      | nil => rfl
      | cons j js =>
        obtain ⟨i, hi⟩ := R2 l l' hl hl' hll j (by rw [hr']; exact List.mem_cons_self ..)
        rw [hr] at hi
        cases hi
    · have h1 := h.2 _ (R1 l l' hl hl' hll i hi)
      obtain ⟨_, o, ho, _⟩ := mem_ready.1 hi
      have hin := (Array.getElem?_eq_some_iff.1 ho).1
      have hpl := (T.at1 i hin).1
      have step : ∀ a w, wpAnyIn F n P .any (turnO ops p) Q fuel (l'.setIfInBounds (placeO p i) true) a w → wpAnyIn F n P .any ops Q fuel (l.setIfInBounds i true) a w := by
        intro a w h
        refine ih _ _ a w (by simpa using hl) (by simpa using hl') (fun k hk => ?_) h
        by_cases hki : k = i
        · subst hki
          simp [show k < l.size by omega, show placeO p k < l'.size by omega]
        · have hne : placeO p i ≠ placeO p k := by
            intro hc
            have h2 := (T.at1 k hk).2
            rw [← hc, (T.at1 i hin).2] at h2
            exact hki (Option.some.inj h2).symm
          rw [getD_set_ne false hne, getD_set_ne false (fun hc => hki hc.symm)]
          exact hll k hk
      unfold wpOpIn at h1 ⊢
      rw [turnO_get T ho] at h1
      rw [ho]
      simp only at h1 ⊢
      rw [wanted_turn T ho] at h1
      split at h1
      · rename_i hw
        rw [if_pos hw]
        have h2 : o.wpIn F n P a w (wpAnyIn F n P .any (turnO ops p) Q fuel (l'.setIfInBounds (placeO p i) true)) Q := h1
        exact Oper.wpIn_mono step h2
      · rename_i hw
        rw [if_neg hw]
        exact ⟨h1.1, step _ _ h1.2⟩

theorem evTurn_ok {call : CallF} (hm : P.follows .mixedOrders = true) (hc : CallOK P call) {ro : Option Nat} {m : Nat} {N id : Nat} (hd : dstOk N ops.toList = true)
    {fr fr' : Fr} {h h' : Hp} {e : Env} {w : World} {a : Act} (he : evTurn P call ops p fr h = some (fr', h')) (r : Rel P h e w) (hf : RF h.next e fr a) (hN : N ≤ a.tmps.size)
    (hk : ∀ e' w' a', Rel P h' e' w' → Stp h e w h' e' w' → RF h'.next e' fr' a' → a'.tmps.size = a.tmps.size → a'.defers = a.defers → Q .normal a' w') :
    (Code.region id ops true).wpIn (WF ro) m P Q a w := by
  unfold evTurn at he
  cases hp : permOk ops p with
  | false => rw [hp] at he; cases he
  | true =>
    rw [hp, cond_true] at he
    have T := permOk_spec hp
    have hd' : dstOk N (turnO ops p).toList = true := by
      unfold dstOk at hd ⊢
      rw [List.all_eq_true] at hd ⊢
      intro o' ho'
      rw [Array.mem_toList_iff] at ho'
      obtain ⟨j, hj, rfl⟩ := Array.mem_iff_getElem.1 ho'
      obtain ⟨i, o, ho, _, h2⟩ := turnO_inv T (Array.getElem?_eq_getElem hj)
      rw [h2]
      exact hd o (by rw [Array.mem_toList_iff]; exact Array.mem_of_getElem? ho)
    have h1 := evDraw_any (P := P) hc (Q := Q) (ro := ro) (m := m) hd' he r hf hN hk
    rw [turnO_size T] at h1
    refine wpIn_region_any hm (wpAnyIn_turn T _ _ _ _ _ (by simp) (by simp) (fun i hi => ?_) h1)
    have := (T.at1 i hi).1
    simp [hi, this]
end Go.Ev
namespace Go.Ev
variable {P : Program}

theorem heap_putObj (w : World) (D : Nat) (o : Obj) (k : Nat) (h : k ≠ D) : (w.putObj D o).heap[k]? = w.heap[k]? := World.putObj_heap_other h

/-- a block of the machine's own is turned -/
theorem Rel.putAway {h : Hp} {e : Env} {w : World} (r : Rel P h e w) {D : Nat} (o : Obj) (hD : ∀ b x, h.get b = some x → e.phi b ≠ D) : Rel P h e (w.putObj D o) :=
  ⟨fun b x hb => ⟨(r.lies b x hb).1, (r.lies b x hb).2.mono (r.lies b x hb).1 (Nat.le_refl _) (Agree.refl _ _) (heap_putObj w D o _ (hD b x hb))⟩, r.inj, r.low, r.glob⟩
theorem Stp.putAway {h h' : Hp} {e e' : Env} {w w' : World} (s : Stp h e w h' e' w') {D : Nat} (o : Obj) (hD : (∃ b x, h.get b = some x ∧ e.phi b = D) ∨ w.heap.size ≤ D) : Stp h e w h' e' (w'.putObj D o) := by
  refine ⟨s.next, s.agree, s.img, fun k hk hn => ?_, by have := s.size; simp [World.putObj]; omega, s.os, s.tape, s.output, s.low, s.prot⟩
  rw [heap_putObj, s.keep k hk hn]
  rintro rfl
  rcases hD with ⟨b, x, h1, h2⟩ | h1
  · exact hn b x h1 h2
  · omega

/-- a block is taken in again -/
theorem Rel.adopt {h : Hp} {e : Env} {w : World} (r : Rel P h e w) {l : Nat} {x : Blk} (hl : l < h.next) (hno : ∀ b y, h.get b = some y → e.phi b ≠ e.phi l) (hx : Lies P h.next e l x w) : Rel P (h.put l (some x)) e w := by
  refine ⟨fun b y hb => ?_, fun b c y z hb hc he => ?_, r.low, r.glob⟩
  · rw [Hp.get_put] at hb
    split at hb
    · rename_i hlb
      subst hlb
      cases hb
      exact ⟨hl, hx⟩
    · exact r.lies b y hb
  · rw [Hp.get_put] at hb hc
    split at hb <;> split at hc
    · omega
    · rename_i h1 h2; subst h1; exact absurd he.symm (hno c z hc)
    · rename_i h1 h2; subst h2; exact absurd he (hno b y hb)
    · exact r.inj b c y z hb hc he
theorem Stp.adopt {h h' : Hp} {e e' : Env} {w w' : World} (s : Stp h e w h' e' w') {l : Nat} {x y : Blk} (hl : h.get l = some y) (hn : l < h.next) (hlow : h.low ≤ l) : Stp h e w (h'.put l (some x)) e' w' := by
  refine ⟨s.next, s.agree, fun b z hb => ?_, s.keep, s.size, s.os, s.tape, s.output, s.low, fun b hb => ?_⟩
  · rw [Hp.get_put] at hb
    split at hb
    · rename_i hlb
      subst hlb
      exact .inl ⟨_, y, hl, ((s.agree _ hn).1).symm⟩
    · exact s.img b z hb
  · rw [Hp.get_put, if_neg (by omega)]
    exact s.prot b hb
theorem Rel.alloc {h : Hp} {e : Env} {w : World} (r : Rel P h e w) (o : Obj) : Rel P h e (w.alloc o) ∧ Stp h e w h e (w.alloc o) := by
  have hk : ∀ k, k < w.heap.size → (w.alloc o).heap[k]? = w.heap[k]? := fun k hk => by
    show (w.heap.push o)[k]? = _
    rw [Array.getElem?_push, if_neg (by omega)]
  exact ⟨⟨fun b x hb => ⟨(r.lies b x hb).1, (r.lies b x hb).2.mono (r.lies b x hb).1 (Nat.le_refl _) (Agree.refl _ _) (hk _ (r.lt hb))⟩, r.inj, r.low, r.glob⟩,
    ⟨Nat.le_refl _, Agree.refl _ _, fun b x hb => .inl ⟨b, x, hb, rfl⟩, fun k h1 _ => hk k h1, by simp, rfl, rfl, rfl, rfl, fun _ _ => rfl⟩⟩

/-! the marks of the ranges over functions -/
def marksOf (ms : List Nat) : List Deferred := ms.map fun D => { target := .collected D, args := #[] }
def Dfr (w w' : World) (old new : List Deferred) : Prop := ∃ ms : List Nat, new = marksOf ms ++ old ∧ ms.Nodup ∧ ∀ D ∈ ms, w.heap.size ≤ D ∧ w'.heap[D]? = some (.deferred (some []))
theorem Dfr.refl (w w' : World) (d : List Deferred) : Dfr w w' d d := ⟨[], rfl, List.nodup_nil, by simp⟩
theorem Dfr.of_eq {w w' : World} {d d' : List Deferred} (h : d' = d) : Dfr w w' d d' := h ▸ Dfr.refl w w' d
theorem Rel.deferred {h : Hp} {e : Env} {w : World} (r : Rel P h e w) {D : Nat} {ds : Option (List Deferred)} (hD : w.heap[D]? = some (.deferred ds)) : ∀ b x, h.get b = some x → e.phi b ≠ D := by
  intro b x hb he
  obtain ⟨o, h1, h2⟩ := (r.lies b x hb).2.obj
  rw [he, hD] at h1
  cases h1
  cases h2
theorem Dfr.trans {w w1 w2 : World} {d0 d1 d2 : List Deferred} {h1 h2 : Hp} {e1 e2 : Env} (a : Dfr w w1 d0 d1) (b : Dfr w1 w2 d1 d2) (r : Rel P h1 e1 w1) (s : Stp h1 e1 w1 h2 e2 w2) (hs : w.heap.size ≤ w1.heap.size) : Dfr w w2 d0 d2 := by
  obtain ⟨ms, a1, a2, a3⟩ := a
  obtain ⟨ns, b1, b2, b3⟩ := b
  have hlt : ∀ D ∈ ms, D < w1.heap.size := fun D hD => (Array.getElem?_eq_some_iff.1 (a3 D hD).2).1
  refine ⟨ns ++ ms, by rw [b1, a1]; simp [marksOf], ?_, fun D hD => ?_⟩
  · rw [List.nodup_append]
    refine ⟨b2, a2, fun x hx y hy => ?_⟩
    rintro rfl
    have h3 := (b3 x hx).1
    have h4 := hlt x hy
    omega
  · rcases List.mem_append.1 hD with hD | hD
    · exact ⟨Nat.le_trans hs (b3 D hD).1, (b3 D hD).2⟩
    · refine ⟨(a3 D hD).1, ?_⟩
      rw [s.keep D (hlt D hD) (r.deferred (a3 D hD).2)]
      exact (a3 D hD).2

/-- the record of the round that is under way -/
def InRound (ro : Option Nat) (h : Hp) (e : Env) (w : World) : Prop := ∀ l, ro = some l → (∃ r, w.heap[l]? = some (.loop r)) ∧ ∀ b x, h.get b = some x → e.phi b ≠ l
theorem InRound.none (h : Hp) (e : Env) (w : World) : InRound none h e w := fun l hl => by cases hl
theorem InRound.step {ro : Option Nat} {h h' : Hp} {e e' : Env} {w w' : World} (i : InRound ro h e w) (s : Stp h e w h' e' w') : InRound ro h' e' w' := by
  intro l hl
  obtain ⟨⟨r, h1⟩, h2⟩ := i l hl
  have hlt := (Array.getElem?_eq_some_iff.1 h1).1
  refine ⟨⟨r, by rw [s.keep l hlt h2]; exact h1⟩, fun b x hb he => ?_⟩
  rcases s.img b x hb with ⟨c, y, hc, h3⟩ | h3
  · exact h2 c y hc (h3.trans he)
  · omega

end Go.Ev
namespace Go.Ev
variable {P : Program}

def exOf : Out → Exit
  | .normal => .normal
  | .exit i => .exit i
  | .ret => .ret

/-- the loop's body has come to its head again -/
def wpL (ro : Option Nat) (m : Nat) (P : Program) (c : Code) (Q : Exit → Act → World → Prop) (a : Act) (w : World) : Prop :=
  ∀ (b : Frame) (k : List Item) (cs : List Frame), b.roundOf = (WF ro).round → (WF ro).fn b.fn → (WF ro).room (cs.length + 1 + m) →
    ∃ e a' w', Q e a' w' ∧ ArrivesIn (Machine.fenced P (WF ro)) P (lone (b.atR a (.code c :: .inLoop c :: k)) cs w) b k cs e a' w'

theorem wpL.loop {ro : Option Nat} {m : Nat} {c : Code} {Q : Exit → Act → World → Prop} {a : Act} {w : World} (h : wpL ro m P c Q a w) : (Code.loop c).wpIn (WF ro) m P Q a w := fun b k cs hro hb hr =>
  let ⟨e, a', w', hq, harr⟩ := h b k cs hro hb hr
  ⟨e, a', w', hq, .of_steps (.one (fenced_calm hb hr rfl) stepR_loop) harr⟩

theorem wpL.unroll {ro : Option Nat} {m : Nat} {c : Code} {Q : Exit → Act → World → Prop} {a : Act} {w : World} (h : c.wpIn (WF ro) m P (Exit.then (wpL ro m P c Q) Q) a w) : wpL ro m P c Q a w := by
  intro b k cs hro hb hr
  obtain ⟨e, a₁, w₁, hq, harr⟩ := h b (.inLoop c :: k) cs hro hb hr
  cases e with
  | normal =>
    obtain ⟨e₂, a₂, w₂, hq₂, harr₂⟩ := hq b k cs hro hb hr
    exact ⟨e₂, a₂, w₂, hq₂, .of_steps (StepsIn.trans harr (.one (fenced_calm hb hr rfl) stepR_inLoop)) harr₂⟩
  | exit id => exact ⟨_, a₁, w₁, hq, .pass (x := .inLoop c) rfl (fun _ _ => .inl (by simp)) harr⟩
  | goto l => exact ⟨_, a₁, w₁, hq, .pass (x := .inLoop c) rfl (fun _ _ => .inl (by simp)) harr⟩
  | ret => exact ⟨_, a₁, w₁, hq, .pass (x := .inLoop c) rfl (fun _ _ => .inl (by simp)) harr⟩
  | panic ch => exact ⟨_, a₁, w₁, hq, .pass (x := .inLoop c) rfl (fun _ _ => .inl (by simp)) harr⟩
  | outgrown => exact ⟨_, a₁, w₁, hq, .pass (x := .inLoop c) rfl (fun _ _ => .inl (by simp)) harr⟩

/-- how a stretch of code ends -/
def Ends (P : Program) (h : Hp) (e : Env) (w : World) (a : Act) (out : Out) (fr' : Fr) (h' : Hp) (Q : Exit → Act → World → Prop) : Prop :=
  ∀ e' w' a', Rel P h' e' w' → Stp h e w h' e' w' → RF h'.next e' fr' a' → a'.tmps.size = a.tmps.size → Dfr w w' a.defers a'.defers → Q (exOf out) a' w'

/-- the record of a range over a function is laid -/
theorem enter_ok {N : Nat} {h : Hp} {e : Env} {w : World} {a : Act} {fr : Fr} {ro : Option Nat} (r : Rel P h e w) (hf : RF h.next e fr a) (hN : N ≤ a.tmps.size) (hi : InRound ro h e w) (fn : FuncId) {ps : Array Tmp} {assign body : Code}
    (h1 : codeOk N assign = true) (h2 : codeOk N body = true) (h3 : ∀ p ∈ ps.toList, p < N) :
    ∃ lr mark w1 e1, (Instr.enterLoop fn a.tmps ps assign body ro).run P w = .ok (lr, mark) w1 ∧ Rel P (h.new (.loop fr ps.toList assign body none)) e1 w1 ∧ Stp h e w (h.new (.loop fr ps.toList assign body none)) e1 w1 ∧
      e1.phi h.next = lr ∧ w.heap.size ≤ lr ∧ Dfr w w1 a.defers (mark ++ a.defers) := by
  -- the record over a world in which the rest is laid
  have lay : ∀ (w0 : World) (df : Nat), Rel P h e w0 → Stp h e w h e w0 →
      ∃ e1, Rel P (h.new (.loop fr ps.toList assign body none)) e1 (w0.alloc (.loop { state := .ready, pending := none, fn := fn, tmps := a.tmps, params := ps, assign := assign, body := body, defers := df })) ∧
        Stp h e w (h.new (.loop fr ps.toList assign body none)) e1 (w0.alloc (.loop { state := .ready, pending := none, fn := fn, tmps := a.tmps, params := ps, assign := assign, body := body, defers := df })) ∧ e1.phi h.next = w0.heap.size := by
    intro w0 df r0 s0
    have hag := e.ext_agree h.next w0.heap.size 0
    obtain ⟨g1, g2⟩ := r0.new (w' := w0.alloc (.loop { state := .ready, pending := none, fn := fn, tmps := a.tmps, params := ps, assign := assign, body := body, defers := df })) (.loop fr ps.toList assign body none)
      (.loop { state := .ready, pending := none, fn := fn, tmps := a.tmps, params := ps, assign := assign, body := body, defers := df }) 0 rfl
      ⟨fn, a.tmps, df, N, by
        rw [Env.ext_phi]
        show (w0.heap.push _)[w0.heap.size]? = _
        rw [Array.getElem?_push_size]
        simp [recOf], fun t v hv => let ⟨v', k1, k2⟩ := hf.vals t v hv; ⟨v', k1, k2.mono (by omega) hag⟩, hN, h1, h2, h3⟩
    exact ⟨_, g1, s0.trans g2, by rw [Env.ext_phi]⟩
  cases ro with
  | none =>
    obtain ⟨r0, s0⟩ := r.alloc (.deferred (some []))
    obtain ⟨e1, g1, g2, g3⟩ := lay _ w.heap.size r0 s0
    refine ⟨_, _, _, e1, run_enterLoop_outer _ _ _ _ _, g1, g2, by rw [g3]; simp, by omega, ⟨[w.heap.size], rfl, by simp, fun D hD => ?_⟩⟩
    simp only [List.mem_singleton] at hD
    subst hD
    refine ⟨Nat.le_refl _, ?_⟩
    show ((w.heap.push _).push _)[w.heap.size]? = _
    rw [Array.getElem?_push, if_neg (by simp), Array.getElem?_push_size]
  | some l0 =>
    obtain ⟨⟨rc, hrc⟩, _⟩ := hi l0 rfl
    obtain ⟨e1, g1, g2, g3⟩ := lay w rc.defers r (Stp.refl _ _ _)
    exact ⟨_, _, _, e1, run_enterLoop_inner hrc _ _ _ _ _, g1, g2, g3, Nat.le_refl _, Dfr.refl _ _ _⟩

/-- a range over a function -/
theorem range_ok {call : CallF} {N : Nat} (hc : CallOK P call) {ro : Option Nat} {m : Nat} {f : Operand} {ps : Array Tmp} {assign body : Code} {ih : CodeF} {fr fr' : Fr} {h h' : Hp} {out : Out}
    (he : cRange f ps assign body P call ih fr h = some (out, fr', h')) (hok : codeOk N (.rangeFunc f ps assign body) = true) {e : Env} {w : World} {a : Act} (r : Rel P h e w) (hf : RF h.next e fr a) (hN : N ≤ a.tmps.size)
    (hi : InRound ro h e w) {Q : Exit → Act → World → Prop} (hQ : Ends P h e w a out fr' h' Q) : (Code.rangeFunc f ps assign body).wpIn (WF ro) m P Q a w := by
  have hok : (codeOk N assign && codeOk N body && ps.toList.all fun t => Nat.blt t N) = true := hok
  rw [Bool.and_eq_true, Bool.and_eq_true, List.all_eq_true] at hok
  obtain ⟨⟨hok1, hok2⟩, hok3⟩ := hok
  have hok3 : ∀ p ∈ ps.toList, p < N := fun p hp => by have := hok3 p hp; rwa [Nat.blt_eq] at this
  unfold cRange at he
  split at he
  case h_2 => cases he
  rename_i g first captured hl
  have hk := hf.look f _ hl
  have hu := hk.under
  simp only [under, underA_iff] at hu
  have hev : a.eval f = .func (.func g) (concA e first) (concA e captured) := by have := hk.eq; simpa [conc, cFn] using this
  split at he
  · cases he
  rename_i v h2 hcall
  refine wpIn_rangeFunc ?_
  intro fn _
  obtain ⟨lr, mark, w1, e1, hrun, r1, s1, hphi, hlr, hdf⟩ := enter_ok r hf hN hi fn hok1 hok2 hok3
  obtain ⟨⟨gf, cd, g1, g2, g3⟩, g4⟩ := hc.func _ _ _ _ _ hcall
  have hag : Agree h.next e e1 := s1.agree
  have hres : (resolve a.eval (rangeCall f lr) 0).run P w1 = .ok { target := .fn (.func g) (concA e captured), args := concA e first ++ #[.func (.yield lr) #[] #[]] } w1 := by
    have hmap : Array.map a.eval #[Operand.const (Value.func (.yield lr) #[] #[])] = #[Value.func (.yield lr) #[] #[]] := by simp [Act.eval]
    simp only [resolve, hev, Deferred.ofValue, hmap]
    rfl
  have hinv : (invoke (.fn (.func g) (concA e captured)) (concA e first ++ #[.func (.yield lr) #[] #[]])).run P w1 = .ok (.enter g (concA e first ++ #[.func (.yield lr) #[] #[]] ++ concA e captured)) w1 :=
    callFunc_run g1 g2 g3 _ w1
  refine ⟨lr, mark, w1, _, w1, g, _, w1, hrun, hres, fun f' _ => WF.fn ro f', hinv, WF.depth ro, WF.calls.2 ?_⟩
  have hargs : RL (h.new (.loop fr ps.toList assign body none)).next e1 (first.toList ++ ([Value.func (.yield h.next) #[] #[]] ++ captured.toList)) (concA e first ++ #[Value.func (.yield lr) #[] #[]] ++ concA e captured).toList := by
    rw [Array.toList_append, Array.toList_append, List.append_assoc]
    have m1 : RL h.next e first.toList (concA e first).toList := ⟨hu.2.1, by rw [concA_map]; simp⟩
    have m2 : RL h.next e captured.toList (concA e captured).toList := ⟨hu.2.2, by rw [concA_map]; simp⟩
    refine (m1.mono (by simp) hag).append (RL.append (RL.cons ⟨?_, ?_⟩ RL.nil) (m2.mono (by simp) hag))
    · simp [under, underA, underL]
    · simp [conc, cFn, concA, concL, hphi]
  have h5 := g4 e1 w1 _ r1 hargs
  unfold CallsTo at h5
  rw [Array.toArray_toList] at h5
  refine Calls.mono h5 ?_
  rintro en w3 ⟨e2, v', rfl, r2, s2, _⟩
  have hphi2 : e2.phi h.next = lr := by rw [(s2.agree h.next (by simp)).1, hphi]
  -- the record behind the call
  have fin : ∀ (pend : Option Code), (∃ fr0 ps0 as0 bd0, h2.get h.next = some (.loop fr0 ps0 as0 bd0 pend)) → ∃ w4, (Instr.endLoop lr).run P w3 = .ok pend w4 ∧ Rel P (h2.put h.next none) e2 w4 ∧ Stp h e w (h2.put h.next none) e2 w4 ∧
      RF (h2.put h.next none).next e2 fr { a with defers := mark ++ a.defers } ∧ Dfr w w4 a.defers (mark ++ a.defers) := by
    rintro pend ⟨fr0, ps0, as0, bd0, hg⟩
    obtain ⟨_, fn0, tmps0, df0, nt0, k1, _⟩ := r2.lies _ _ hg
    rw [hphi2] at k1
    have hlow : h2.low ≤ h.next := by rw [s2.low]; exact r.low
    obtain ⟨d1, d2⟩ := r2.drop (b := h.next) hlow
    have hno : ∀ b x, (h2.put h.next none).get b = some x → e2.phi b ≠ lr := by
      intro b x hb hc
      rw [Hp.get_put] at hb
      split at hb
      · cases hb
      · rename_i hne
        exact hne (r2.inj _ _ _ _ hg hb (hphi2.trans hc.symm))
    have hs : Stp h e w (h2.put h.next none) e2 w3 := (s1.trans s2).trans d2
    refine ⟨_, run_endLoop k1 (by unfold recOf; cases pend <;> simp), d1.putAway _ hno, hs.putAway _ (.inr hlr), ?_, ?_⟩
    · exact ⟨d1.glob, fun t u hu => (hf.mono hs.next hs.agree).vals t u hu⟩
    · obtain ⟨ms, q1, q2, q3⟩ := hdf.trans (Dfr.refl w1 w3 _) r1 s2 s1.size
      refine ⟨ms, q1, q2, fun D hD => ⟨(q3 D hD).1, ?_⟩⟩
      rw [heap_putObj _ _ _ _ (fun hc => by
        have := (q3 D hD).2
        rw [hc, k1] at this
        cases this)]
      exact (q3 D hD).2
  split at he
  · rename_i fr0 ps0 as0 bd0 hg
    cases he
    obtain ⟨w4, k1, k2, k3, k4, k5⟩ := fin none ⟨_, _, _, _, hg⟩
    exact ⟨none, w4, k1, hQ e2 w4 _ k2 k3 k4 rfl k5⟩
  · rename_i fr0 ps0 as0 bd0 hg
    cases he
    obtain ⟨w4, k1, k2, k3, k4, k5⟩ := fin (some .ret) ⟨_, _, _, _, hg⟩
    exact ⟨_, w4, k1, wpIn_ret (hQ e2 w4 _ k2 k3 k4 rfl k5)⟩
  · rename_i fr0 ps0 as0 bd0 id hg
    cases he
    obtain ⟨w4, k1, k2, k3, k4, k5⟩ := fin (some (.exit id)) ⟨_, _, _, _, hg⟩
    exact ⟨_, w4, k1, wpIn_exit (hQ e2 w4 _ k2 k3 k4 rfl k5)⟩
  · cases he

theorem evCode_ok {call : CallF} {N : Nat} (hm : P.follows .mixedOrders = true) (hc : CallOK P call) : ∀ n : Nat,
    (∀ {c : Code} {fr fr' : Fr} {h h' : Hp} {out : Out}, evCode P call n c fr h = some (out, fr', h') → codeOk N c = true → ∀ {ro : Option Nat} {m : Nat}
      {e : Env} {w : World} {a : Act}, Rel P h e w → RF h.next e fr a → N ≤ a.tmps.size → InRound ro h e w → ∀ {Q}, Ends P h e w a out fr' h' Q → c.wpIn (WF ro) m P Q a w) ∧
    (∀ {c : Code} {fr fr' : Fr} {h h' : Hp} {out : Out}, evCode P call n (.loop c) fr h = some (out, fr', h') → codeOk N c = true → ∀ {ro : Option Nat} {m : Nat}
      {e : Env} {w : World} {a : Act}, Rel P h e w → RF h.next e fr a → N ≤ a.tmps.size → InRound ro h e w → ∀ {Q}, Ends P h e w a out fr' h' Q → wpL ro m P c Q a w) := by
  intro n
  induction n with
  | zero => constructor <;> (intro c fr fr' h h' out he; cases he)
  | succ n ih =>
    obtain ⟨ih1, ih2⟩ := ih
    have loop : ∀ {c : Code} {fr fr' : Fr} {h h' : Hp} {out : Out}, evCode P call (n + 1) (.loop c) fr h = some (out, fr', h') → codeOk N c = true → ∀ {ro : Option Nat} {m : Nat}
      {e : Env} {w : World} {a : Act}, Rel P h e w → RF h.next e fr a → N ≤ a.tmps.size → InRound ro h e w → ∀ {Q}, Ends P h e w a out fr' h' Q → wpL ro m P c Q a w := by
      intro c fr fr' h h' out he hok ro m e w a r hf hN hi Q hQ
      have he : (match evCode P call n c fr h with
        | some (.normal, fr, h) => evCode P call n (.loop c) fr h
        | r => r) = some (out, fr', h') := he
      split at he
      · rename_i fr₁ h₁ h1
        refine wpL.unroll (ih1 h1 hok r hf hN hi ?_)
        intro e' w' a' r' s' hf' hs hd
        refine ih2 he hok r' hf' (by rw [hs]; exact hN) (hi.step s') ?_
        intro e'' w'' a'' r'' s'' hf'' hs' hd'
        exact hQ e'' w'' a'' r'' (s'.trans s'') hf'' (hs'.trans hs) (hd.trans hd' r' s'' s'.size)
      · rename_i hno
        refine wpL.unroll (ih1 he hok r hf hN hi ?_)
        intro e' w' a' r' s' hf' hs hd
        have := hQ e' w' a' r' s' hf' hs hd
        cases out with
        | normal => exact absurd he (hno _ _)
        | exit i => exact this
        | ret => exact this
    refine ⟨?_, loop⟩
    intro c fr fr' h h' out he hok ro m e w a r hf hN hi Q hQ
    cases c with
    | skip =>
      cases he
      exact wpIn_skip (hQ e w a r (Stp.refl _ _ _) hf rfl (Dfr.refl _ _ _))
    | region id ops draw =>
      have he : (match (bif draw then (bif anyLate ops then evTurn P call ops (orderOf ops) fr h else evDraw P call ops (masks ops.toList []) fr h) else evOps P call ops.toList ops.toList fr h) with
        | none => none
        | some (fr, h) => some (Out.normal, fr, h)) = some (out, fr', h') := he
      have hd : dstOk N ops.toList = true := hok
      split at he
      · cases he
      · rename_i fr₁ h₁ h1
        cases he
        cases draw with
        | true =>
          rw [cond_true] at h1
          cases hal : anyLate ops with
          | true =>
            rw [hal, cond_true] at h1
            exact evTurn_ok hm hc hd h1 r hf hN fun e' w' a' k1 k2 k3 k4 k5 => hQ e' w' a' k1 k2 k3 k4 (Dfr.of_eq k5)
          | false =>
            rw [hal, cond_false] at h1
            exact evDraw_ok hm hc hd h1 r hf hN fun e' w' a' k1 k2 k3 k4 k5 => hQ e' w' a' k1 k2 k3 k4 (Dfr.of_eq k5)
        | false =>
          refine wpIn_region ?_
          have := evOps_ok hc (ro := ro) (m := m) ops.toList [] rfl hd (Q := Q) h1 r hf hN fun e' w' a' k1 k2 k3 k4 k5 => hQ e' w' a' k1 k2 k3 k4 (Dfr.of_eq k5)
          rw [List.range_eq_range']
          simpa using this
    | seq x y =>
      have hok : (codeOk N x && codeOk N y) = true := hok
      rw [Bool.and_eq_true] at hok
      have he : (match evCode P call n x fr h with
        | some (.normal, fr, h) => evCode P call n y fr h
        | r => r) = some (out, fr', h') := he
      split at he
      · rename_i fr₁ h₁ h1
        refine wpIn_seq (ih1 h1 hok.1 r hf hN hi ?_)
        intro e' w' a' r' s' hf' hs hd
        refine ih1 he hok.2 r' hf' (by rw [hs]; exact hN) (hi.step s') ?_
        intro e'' w'' a'' r'' s'' hf'' hs' hd'
        exact hQ e'' w'' a'' r'' (s'.trans s'') hf'' (hs'.trans hs) (hd.trans hd' r' s'' s'.size)
      · rename_i hno
        refine wpIn_seq (ih1 he hok.1 r hf hN hi ?_)
        intro e' w' a' r' s' hf' hs hd
        have := hQ e' w' a' r' s' hf' hs hd
        cases out with
        | normal => exact absurd he (hno _ _)
        | exit i => exact this
        | ret => exact this
    | cond x t f =>
      have hok : (codeOk N t && codeOk N f) = true := hok
      rw [Bool.and_eq_true] at hok
      have he : (match look fr x with
        | some (.bool true) => evCode P call n t fr h
        | some (.bool false) => evCode P call n f fr h
        | _ => none) = some (out, fr', h') := he
      split at he
      · rename_i hl
        have hv : a.eval x = .bool true := by have := (hf.look x _ hl).eq; simpa [conc] using this
        exact wpIn_cond_true hv (ih1 he hok.1 r hf hN hi hQ)
      · rename_i hl
        have hv : a.eval x = .bool false := by have := (hf.look x _ hl).eq; simpa [conc] using this
        exact wpIn_cond_false hv (ih1 he hok.2 r hf hN hi hQ)
      · cases he
    | block id x =>
      have hok : codeOk N x = true := hok
      have he : (match evCode P call n x fr h with
        | some (.exit i, fr, h) => bif Nat.beq i id then some (Out.normal, fr, h) else some (.exit i, fr, h)
        | r => r) = some (out, fr', h') := he
      split at he
      · rename_i i fr₁ h₁ h1
        refine wpIn_block (ih1 h1 hok r hf hN hi ?_)
        intro e' w' a' r' s' hf' hs hd
        show (if i = id then Q .normal a' w' else Q (.exit i) a' w')
        cases hb : Nat.beq i id with
        | true =>
          rw [hb] at he
          cases he
          rw [if_pos (Nat.eq_of_beq_eq_true hb)]
          exact hQ e' w' a' r' s' hf' hs hd
        | false =>
          rw [hb] at he
          cases he
          rw [if_neg (fun hc => by rw [hc] at hb; simp at hb)]
          exact hQ e' w' a' r' s' hf' hs hd
      · rename_i hno
        refine wpIn_block (ih1 he hok r hf hN hi ?_)
        intro e' w' a' r' s' hf' hs hd
        have := hQ e' w' a' r' s' hf' hs hd
        cases out with
        | normal => exact this
        | exit i => exact absurd he (hno _ _ _)
        | ret => exact this
    | loop x => exact (loop he hok r hf hN hi hQ).loop
    | exit id =>
      cases he
      exact wpIn_exit (hQ e w a r (Stp.refl _ _ _) hf rfl (Dfr.refl _ _ _))
    | label l =>
      cases he
      exact wpIn_label (hQ e w a r (Stp.refl _ _ _) hf rfl (Dfr.refl _ _ _))
    | ret =>
      cases he
      exact wpIn_ret (hQ e w a r (Stp.refl _ _ _) hf rfl (Dfr.refl _ _ _))
    | rangeFunc f ps x y => exact range_ok (ih := evCode P call n) hc he hok r hf hN hi hQ
    | scope x => cases he
    | goto l => cases he
    | refuse s => cases he

end Go.Ev
namespace Go.Ev
variable {P : Program}

theorem enterFr_get : ∀ (l : List Value) (i : Nat) (fr : Fr) (t : Nat), (enterFr l i fr).get t = if i ≤ t ∧ t < i + l.length then l[t - i]? else fr.get t
  | [], i, fr, t => by
    rw [if_neg (by simp)]; rfl
  | v :: l, i, fr, t => by
    have he : enterFr (v :: l) i fr = enterFr l (i + 1) (fr.set i (some v)) := rfl
    rw [he, enterFr_get l (i + 1)]
    by_cases h1 : t = i
    · subst h1
      rw [if_neg (by omega), T.get_set, if_pos rfl, if_pos (by simp)]
      simp
    · by_cases h2 : i + 1 ≤ t ∧ t < i + 1 + l.length
      · rw [if_pos h2, if_pos (by simp; omega)]
        rw [show t - i = (t - (i + 1)) + 1 by omega, List.getElem?_cons_succ]
      · rw [if_neg h2, if_neg (by simp; omega), T.get_set, if_neg (fun hc => h1 hc.symm)]

/-- what a function gives back in one place -/
def resF (tmps : Array Value) : ResultVar → Sem Value
  | .tmp t => pure (tmps.getD t undef)
  | .cell ad t => do loadVar t (← asAddr (tmps.getD ad undef))
theorem results_eq (fn : Func) (tmps : Array Value) : Go.results fn tmps = (do let vs ← fn.results.mapM (resF tmps); pure (if h : vs.size = 1 then vs[0] else .tuple vs)) := by
  unfold Go.results
  refine congrArg (fun x => x >>= _) ?_
  congr 1

theorem results_ok {fr : Fr} {h : Hp} {e : Env} {w : World} {a : Act} (r : Rel P h e w) (hf : RF h.next e fr a) : ∀ {rs : List ResultVar} {vs : List Value}, Ev.results P fr h rs = some vs →
    ∃ vs', RL h.next e vs vs' ∧ (rs.mapM (resF a.tmps)).run P w = .ok vs' w
  | [], vs, h => by
    cases h
    exact ⟨[], RL.nil, rfl⟩
  | .tmp t :: rs, vs, hh => by
    unfold Ev.results at hh
    split at hh
    · cases hh
    · rename_i v hv
      split at hh
      · cases hh
      · rename_i us hus
        cases hh
        obtain ⟨vs', h1, h2⟩ := results_ok r hf hus
        obtain ⟨v', h3, h4⟩ := hf.vals t v hv
        refine ⟨v' :: vs', RL.cons h4 h1, ?_⟩
        rw [List.mapM_cons]
        have : (resF a.tmps (.tmp t)).run P w = .ok v' w := by simp [resF, h3, Sem.run_pure]
        simp only [Sem.run_bind, this, Sem.run_pure, Result.andThen_ok, h2]
  | .cell ad t :: rs, vs, hh => by
    unfold Ev.results at hh
    split at hh
    · rename_i b hb
      split at hh
      · cases hh
      · rename_i v hv
        split at hh
        · cases hh
        · rename_i us hus
          cases hh
          obtain ⟨vs', h1, h2⟩ := results_ok r hf hus
          obtain ⟨p', h3, h4⟩ := hf.vals ad _ hb
          obtain ⟨_, rfl⟩ := h4.ptr_inv
          obtain ⟨v', h5, h6⟩ := loadA_ok r hv
          refine ⟨v' :: vs', RL.cons h6 h1, ?_⟩
          rw [List.mapM_cons]
          have : (resF a.tmps (.cell ad t)).run P w = .ok v' w := by
            have hg : a.tmps.getD ad undef = .pointer (some (cA e b)) := by simp [h3]
            simp only [resF, Sem.run_bind, hg, asAddr, Sem.run_pure, Result.andThen_ok, h5]
          simp only [Sem.run_bind, this, Sem.run_pure, Result.andThen_ok, h2]
    · cases hh

/-- what a function's values are as one -/
def Gives (n : Nat) (e : Env) (vs : List Value) (v' : Value) : Prop :=
  match vs with
  | [v] => RV n e v v'
  | vs => RV n e (.tuple ⟨vs⟩) v'

def ExtOK (P : Program) (ext : Ext) : Prop := ∀ f g, ext f = some g →
  (∃ fn c, P.funcs[f]? = some fn ∧ fn.body = some c ∧ fn.name ≠ "runtime.NumGoroutine") ∧
  ∀ args h v h', g args h = some (v, h') → ∀ e w args', Rel P h e w → RL h.next e args args' → CallsTo P f args' h e w v h'

/-- the marks are taken at a function's end -/
theorem leaves_marks {fn : Func} {tmps : Array Value} {R : Ending → World → Prop} {h0 h : Hp} {e0 e : Env} {w0 : World} {m : Nat} : ∀ (ms : List Nat) (w : World), Rel P h e w → Stp h0 e0 w0 h e w → ms.Nodup →
    (∀ D ∈ ms, w0.heap.size ≤ D ∧ w.heap[D]? = some (.deferred (some []))) →
    (∀ w', Rel P h e w' → Stp h0 e0 w0 h e w' → ∃ v, (Go.results fn tmps).run P w' = .ok v w' ∧ R (.returned v) w') → LeavesInM Fence.wide m P fn tmps R (marksOf ms) .returning w
  | [], w, r, s, _, _, hR => by
    show LeavesIn Fence.wide m P fn tmps R [] .returning w
    simpa [LeavesIn] using hR w r s
  | D :: ms, w, r, s, hn, hD, hR => by
    obtain ⟨h1, h2⟩ := hD D (by simp)
    rw [List.nodup_cons] at hn
    refine ⟨by simp, .inl ⟨D, _, rfl, run_takeDeferred h2, ?_⟩⟩
    refine leaves_marks ms _ (r.putAway _ (r.deferred h2)) (s.putAway _ (.inr h1)) hn.2 (fun D' hD' => ?_) hR
    have hne : D' ≠ D := by rintro rfl; exact hn.1 hD'
    rw [heap_putObj _ _ _ _ hne]
    exact hD D' (by simp [hD'])

theorem evBody_ok {call : CallF} (hm : P.follows .mixedOrders = true) (hc : CallOK P call) {n : Nat} {f : FuncId} {fn : Func} {c : Code} {args args' : List Value} {h h' : Hp} {v : Value} (hf : P.funcs[f]? = some fn) (hb : fn.body = some c)
    (hok : codeOk fn.ntmps c = true) (he : evBody P call n fn c args h = some (v, h')) {e : Env} {w : World} (r : Rel P h e w) (hl : RL h.next e args args') : CallsTo P f args' h e w v h' := by
  unfold evBody at he
  unfold CallsTo
  refine callsIn_wide.1 (callsIn_of_wp_marks (F := Fence.wide) (n := 0) hf hb trivial ?_)
  have hsz : (args'.toArray ++ Array.replicate (fn.ntmps - args'.toArray.size) undef).size ≥ fn.ntmps := by simp; omega
  have hRF : RF h.next e (enterFr args 0 .leaf) { tmps := args'.toArray ++ Array.replicate (fn.ntmps - args'.toArray.size) undef, defers := [] } := by
    refine ⟨r.glob, fun t u hu => ?_⟩
    rw [enterFr_get] at hu
    split at hu
    · rename_i ht
      obtain ⟨u', h1, h2⟩ := hl.get (k := t) (by simpa using hu)
      refine ⟨u', ?_, h2⟩
      have : t < args'.toArray.size := by rw [List.size_toArray, hl.length]; omega
      rw [Array.getElem?_append_left this]
      simpa using h1
    · cases hu
  -- what is given back
  have give : ∀ {fr' : Fr} {h₁ : Hp} (vs : List Value), Ev.results P fr' h₁ fn.results.toList = some vs →
      ∀ {e' : Env} {w' : World} {a' : Act}, Rel P h₁ e' w' → RF h₁.next e' fr' a' → ∃ v', (Go.results fn a'.tmps).run P w' = .ok v' w' ∧
        Gives h₁.next e' vs v' := by
    intro fr' h₁ vs hvs e' w' a' r' hf'
    obtain ⟨vs', h1, h2⟩ := results_ok r' hf' hvs
    have hrun : (fn.results.mapM (resF a'.tmps)).run P w' = .ok vs'.toArray w' := by
      rw [Array.mapM_eq_mapM_toList, ← bind_pure_comp]
      simp only [Sem.run_bind, h2, Result.andThen_ok, Sem.run_pure]
    refine ⟨if h : vs'.toArray.size = 1 then vs'.toArray[0] else .tuple vs'.toArray, ?_, ?_⟩
    · rw [results_eq]
      simp only [Sem.run_bind, hrun, Result.andThen_ok, Sem.run_pure]
    · have hlen := h1.length
      have htup : vs'.length ≠ 1 → RV h₁.next e' (.tuple ⟨vs⟩) (if h : vs'.toArray.size = 1 then vs'.toArray[0] else .tuple vs'.toArray) := by
        intro hne
        rw [dif_neg (by simpa using hne)]
        exact ⟨by simp only [under, underA, underL_iff]; exact h1.1, by simp only [conc, concA, concL_map, h1.2]⟩
      unfold Gives
      split
      · rename_i v
        have : vs' = [conc e' v] := h1.2
        subst this
        exact ⟨h1.1 v (by simp), rfl⟩
      · rename_i hne
        refine htup fun hc => ?_
        rw [hlen] at hc
        obtain ⟨x, hx⟩ := List.length_eq_one_iff.1 hc
        exact hne x hx
  have run : ∀ {out : Out} {fr₁ : Fr} {h₁ : Hp} (vs : List Value) (v₀ : Value), evCode P call n c (enterFr args 0 .leaf) h = some (out, fr₁, h₁) → (∀ id, out ≠ .exit id) → Ev.results P fr₁ h₁ fn.results.toList = some vs →
      (∀ e' v', Gives h₁.next e' vs v' → RV h₁.next e' v₀ v') →
      c.wpIn Fence.wide 0 P (bodyPostM Fence.wide 0 P fn fun en w' => ∃ e' v', en = .returned v' ∧ Rel P h₁ e' w' ∧ Stp h e w h₁ e' w' ∧ RV h₁.next e' v₀ v') { tmps := args'.toArray ++ Array.replicate (fn.ntmps - args'.toArray.size) undef, defers := [] } w := by
    intro out fr₁ h₁ vs v₀ h1 hne hv hgive
    refine (evCode_ok hm hc n).1 h1 hok (ro := none) r hRF hsz (InRound.none _ _ _) ?_
    intro e' w' a' r' s' hf' hs hd
    have fin : LeavesInM Fence.wide 0 P fn a'.tmps (fun en w' => ∃ e' v', en = .returned v' ∧ Rel P h₁ e' w' ∧ Stp h e w h₁ e' w' ∧ RV h₁.next e' v₀ v') a'.defers .returning w' := by
      obtain ⟨ms, q1, q2, q3⟩ := hd
      rw [q1, List.append_nil]
      refine leaves_marks ms w' r' s' q2 q3 fun w'' r'' s'' => ?_
      obtain ⟨v', g1, g2⟩ := give _ hv r'' hf'
      exact ⟨v', g1, e', v', rfl, r'', s'', hgive e' v' g2⟩
    cases out with
    | normal => exact fin
    | exit i => exact absurd rfl (hne i)
    | ret => exact fin
  split at he
  · cases he
  · cases he
  · rename_i out fr₁ h₁ hne h1
    split at he
    · cases he
    · rename_i v₁ hv
      cases he
      exact run [v] v h1 (fun id hc => hne id hc) hv fun e' v' hg => hg
    · rename_i vs hnv hv
      cases he
      refine run vs _ h1 (fun id hc => hne id hc) hv fun e' v' hg => ?_
      unfold Gives at hg
      split at hg
      · rename_i x
        exact absurd rfl (hnv x)
      · exact hg

theorem setPs_ok {n : Nat} {e : Env} {nt : Nat} : ∀ {ps : List Tmp} {args args' : List Value} {fr : Fr} {tmps : Array Value}, RFr n e fr tmps → RL n e args args' → (∀ p ∈ ps, p < nt) → nt ≤ tmps.size →
    RFr n e (setPs fr ps args) ((ps.zip args').foldl (fun t (p, v) => t.setIfInBounds p v) tmps) ∧ ((ps.zip args').foldl (fun t (p, v) => t.setIfInBounds p v) tmps).size = tmps.size
  | [], args, args', fr, tmps, hf, _, _, _ => by
    have : setPs fr [] args = fr := by cases args <;> rfl
    rw [this]
    exact ⟨hf, rfl⟩
  | p :: ps, [], args', fr, tmps, hf, hl, _, _ => by
    have : args' = [] := hl.2
    subst this
    exact ⟨hf, rfl⟩
  | p :: ps, v :: args, args', fr, tmps, hf, hl, hp, hn => by
    have : args' = conc e v :: args.map (conc e) := hl.2
    subst this
    simp only [setPs, List.zip_cons_cons, List.foldl_cons]
    have hpl : p < tmps.size := Nat.lt_of_lt_of_le (hp p (by simp)) hn
    obtain ⟨h1, h2⟩ := setPs_ok (ps := ps) (args := args) (args' := args.map (conc e)) (fr := fr.set p (some v)) (tmps := tmps.setIfInBounds p (conc e v)) (n := n) (e := e) (nt := nt) (fun t u hu => by
      rw [T.get_set] at hu
      split at hu
      · rename_i hpt
        subst hpt
        cases hu
        exact ⟨conc e v, by simp [hpl], hl.1 v (by simp), rfl⟩
      · rename_i hpt
        obtain ⟨u', k1, k2⟩ := hf t u hu
        exact ⟨u', by rw [Array.getElem?_setIfInBounds_ne hpt]; exact k1, k2⟩) ⟨fun x hx => hl.1 x (by simp [hx]), rfl⟩ (fun q hq => hp q (by simp [hq])) (by simpa using hn)
    exact ⟨h1, h2.trans (by simp)⟩

/-- a round -/
theorem evRound_ok {call : CallF} (hm : P.follows .mixedOrders = true) (hc : CallOK P call) {n l : Nat} {args args' : List Value} {h h' : Hp} {v : Value} (he : evRound P call n l args h = some (v, h')) {e : Env} {w : World}
    (r : Rel P h e w) (hl : RL h.next e args args') : YieldsTo P (e.phi l) args' h e w v h' := by
  unfold evRound at he
  split at he
  case h_2 => cases he
  rename_i fr ps assign body hg
  obtain ⟨hln, fn, tmps, df, nt, k1, k2, k3, k4, k5, k6⟩ := r.lies _ _ hg
  cases hk : (not (Nat.blt l h.low) && Nat.beq args.length ps.length) with
  | false => rw [hk] at he; cases he
  | true =>
    rw [hk, cond_true] at he
    rw [Bool.and_eq_true] at hk
    have hlow : h.low ≤ l := by
      rcases Nat.lt_or_ge l h.low with hc | hc
      · rw [← Nat.blt_eq] at hc
        rw [hc] at hk; exact absurd hk.1 (by simp)
      · exact hc
    have hlen : args'.length = ps.length := by rw [hl.length]; exact Nat.eq_of_beq_eq_true hk.2
    obtain ⟨r1, s1⟩ := r.drop hlow
    have hno1 : ∀ b x, (h.put l none).get b = some x → e.phi b ≠ e.phi l := by
      intro b x hb hc
      rw [Hp.get_put] at hb
      split at hb
      · cases hb
      · rename_i hne
        exact hne (r.inj _ _ _ _ hg hb hc.symm)
    have hi1 : InRound (some (e.phi l)) (h.put l none) e w := fun l0 hl0 => by cases hl0; exact ⟨⟨_, k1⟩, hno1⟩
    obtain ⟨f1, f2⟩ := setPs_ok (n := (h.put l none).next) (nt := nt) (ps := ps) (args := args) (args' := args') k2 hl k6 k3
    split at he
    case h_2 => cases he
    rename_i fr1 h1 hassign
    refine ⟨fn, _, assign, body, run_yield k1 (by simp [recOf, hlen]), fun m => roundIn_of_wpIn trivial ?_⟩
    have hfold : ((recOf fn tmps df ps assign body none).params.zip args'.toArray).foldl (fun tmps (t, a) => tmps.setIfInBounds t a) (recOf fn tmps df ps assign body none).tmps = (ps.zip args').foldl (fun t (p, v) => t.setIfInBounds p v) tmps := by
      simp only [recOf]
      rw [← Array.foldl_toList]
      simp
    rw [hfold]
    show assign.wpIn (WF (some (e.phi l))) m P _ _ w
    refine (evCode_ok hm hc n).1 hassign k4 r1 ?_ ?_ hi1 ?_
    · exact ⟨r1.glob, f1⟩
    · show nt ≤ Array.size _
      rw [f2]; exact k3
    intro e1 w1 a1 q1 q2 q3 q4 q5
    -- the round begins
    have hi2 := hi1.step q2
    have hrec1 : w1.heap[e.phi l]? = some (.loop (recOf fn tmps df ps assign body none)) := by
      rw [q2.keep _ (r.lt hg) hno1]; exact k1
    have hno2 := (hi2 _ rfl).2
    show ∃ w₂, (Instr.beginRound (e.phi l)).run P w1 = .ok () w₂ ∧ _
    refine ⟨_, run_beginRound hrec1 rfl, ?_⟩
    have r2 := q1.putAway (.loop { recOf fn tmps df ps assign body none with state := .busy }) hno2
    have s2 : Stp h e w h1 e1 (w1.putObj (e.phi l) (.loop { recOf fn tmps df ps assign body none with state := .busy })) := (s1.trans q2).putAway _ (.inl ⟨l, _, hg, rfl⟩)
    have hput : (w1.putObj (e.phi l) (.loop { recOf fn tmps df ps assign body none with state := .busy })).heap[e.phi l]? = some (.loop { recOf fn tmps df ps assign body none with state := .busy }) :=
      World.putObj_heap_same (Array.getElem?_eq_some_iff.1 hrec1).1
    have hi3 : InRound (some (e.phi l)) h1 e1 (w1.putObj (e.phi l) (.loop { recOf fn tmps df ps assign body none with state := .busy })) := fun l0 hl0 => by cases hl0; exact ⟨⟨_, hput⟩, hno2⟩
    -- the round's end
    have fin : ∀ {out : Out} {fr2 : Fr} {h2 : Hp} (pend : Option Code) (b : Bool), b = pend.isNone → evCode P call n body fr1 h1 = some (out, fr2, h2) → h' = h2.put l (some (.loop fr ps assign body pend)) → v = .bool b →
        (∀ {R a w'}, (∃ v w'', (Instr.endRound (e.phi l) pend).run P w' = .ok v w'' ∧ R (.returned v) w'') → roundPost P (e.phi l) R (exOf out) a w') →
        body.wpIn (Fence.wide.inRound (e.phi l)) m P (roundPost P (e.phi l) fun en w' => ∃ e' v', en = .returned v' ∧ Rel P h' e' w' ∧ Stp h e w h' e' w' ∧ RV h'.next e' v v') a1 (w1.putObj (e.phi l) (.loop { recOf fn tmps df ps assign body none with state := .busy })) := by
      intro out fr2 h2 pend b hb hbody hh hv hpost
      show body.wpIn (WF (some (e.phi l))) m P _ _ _
      refine (evCode_ok hm hc n).1 hbody k5 r2 q3 (by rw [q4]; show nt ≤ Array.size _; rw [f2]; exact k3) hi3 ?_
      intro e2 w2 a2 p1 p2 p3 p4 p5
      have hrec2 : w2.heap[e.phi l]? = some (.loop { recOf fn tmps df ps assign body none with state := .busy }) := by
        rw [p2.keep _ (Array.getElem?_eq_some_iff.1 hput).1 hno2]; exact hput
      have hno3 := ((hi3.step p2) _ rfl).2
      have hphi : e2.phi l = e.phi l := ((s2.trans p2).agree l hln).1
      refine hpost ⟨_, _, run_endRound pend hrec2, e2, .bool b, by rw [hb], ?_, ?_, ?_⟩
      · rw [hh]
        refine (p1.putAway _ hno3).adopt (Nat.lt_of_lt_of_le hln (s2.trans p2).next) (fun b x hb' => by rw [hphi]; exact hno3 b x hb') ⟨fn, tmps, df, nt, ?_, ?_, k3, k4, k5, k6⟩
        · rw [hphi, World.putObj_heap_same (Array.getElem?_eq_some_iff.1 hrec2).1]
          rfl
        · exact k2.mono (s2.trans p2).next (s2.trans p2).agree
      · rw [hh]
        exact ((s2.trans p2).putAway _ (.inl ⟨l, _, hg, rfl⟩)).adopt hg hln hlow
      · rw [hv]; exact RV.bool
    split at he
    · rename_i fr2 h2 hbody
      cases he
      exact fin none true rfl hbody rfl rfl fun hx => hx
    · rename_i fr2 h2 hbody
      cases he
      exact fin (some .ret) false rfl hbody rfl rfl fun hx => hx
    · rename_i id fr2 h2 hbody
      cases he
      exact fin (some (.exit id)) false rfl hbody rfl rfl fun hx => hx
    · cases he

/-- a call of the evaluator is a call of the machine -/
theorem evCall_ok (hm : P.follows .mixedOrders = true) {ext : Ext} (hx : ExtOK P ext) : ∀ n, CallOK P (evCall P ext n) := by
  intro n
  induction n with
  | zero => constructor <;> (intro f args h v h' he; cases he)
  | succ n ih =>
    constructor
    · intro f args h v h' he
      have he : (match ext f with
        | some g => g args h
        | none => evFn P (evCall P ext n) n f args h) = some (v, h') := he
      split at he
      · rename_i g hg
        obtain ⟨h1, h2⟩ := hx f g hg
        exact ⟨h1, fun e w args' r hl => h2 args h v h' he e w args' r hl⟩
      · unfold evFn at he
        split at he
        · cases he
        · rename_i fn hf
          split at he
          · cases he
          · rename_i c hb
            cases hk : (codeOk fn.ntmps c && not (fn.name == "runtime.NumGoroutine")) with
            | false => rw [hk] at he; cases he
            | true =>
              rw [hk, cond_true] at he
              rw [Bool.and_eq_true] at hk
              refine ⟨⟨fn, c, hf, hb, by simpa using hk.2⟩, fun e w args' r hl => evBody_ok hm ih hf hb hk.1 he r hl⟩
    · intro l args h v h' he e w args' r hl
      have he : evRound P (evCall P ext n) n l args h = some (v, h') := he
      exact evRound_ok hm ih he r hl

/-- nothing by hand -/
def noExt : Ext := fun _ => none
theorem noExt_ok : ExtOK P noExt := fun f g hg => by cases hg

end Go.Ev
namespace Go.Ev
open Go.RowKit
variable {P : Program}

/-- a state of the evaluator, written out: the places of the frame and the blocks that are still wanted -/
structure Snap where
  fr : List (Nat × Value)
  hp : List (Nat × Blk)
  next : Nat
noncomputable def mkT {α : Type} : List (Nat × α) → T α
  | [] => .leaf
  | x :: l => (mkT l).set x.1 (some x.2)
noncomputable def Snap.toFr (s : Snap) : Fr := mkT s.fr
noncomputable def Snap.toHp (g : List (Nat × Blk)) (s : Snap) : Hp := ⟨mkT (g ++ s.hp), s.next, 64⟩
noncomputable def above (l : List (Nat × Blk)) : Bool := l.all fun x => Nat.ble 64 x.1
noncomputable def beneath (l : List (Nat × Blk)) : Bool := l.all fun x => Nat.blt x.1 64
noncomputable def takes {α : Type} (t : T α) : List Nat → Option (List (Nat × α))
  | [] => some []
  | n :: l => match t.get n with
    | none => none
    | some v => match takes t l with
      | none => none
      | some vs => some ((n, v) :: vs)
noncomputable def snapOf (ts bs : List Nat) (r : Option (Out × Fr × Hp)) : Option Snap :=
  match r with
  | some (.normal, fr, h) => match takes fr ts, takes h.t bs with
    | some f, some b => some ⟨f, b, h.next⟩
    | _, _ => none
  | _ => none
/-- what a function gives back at a stretch's end -/
noncomputable def lastVal (P : Program) (rs : List ResultVar) (r : Option (Out × Fr × Hp)) : Option (List Value) :=
  match r with
  | some (.normal, fr, h) => results P fr h rs
  | some (.ret, fr, h) => results P fr h rs
  | _ => none
def headC : Code → Code
  | .seq a _ => a
  | c => c
def tailC : Code → Code
  | .seq _ b => b
  | c => c

theorem takes_get {α : Type} {t : T α} : ∀ {l : List Nat} {r : List (Nat × α)}, takes t l = some r → ∀ n v, (mkT r).get n = some v → t.get n = some v
  | [], r, h, n, v, hv => by
    cases h
    cases hv
  | k :: l, r, h, n, v, hv => by
    unfold takes at h
    split at h
    · cases h
    · rename_i u hu
      split at h
      · cases h
      · rename_i us hus
        cases h
        have hv' : ((mkT us).set k (some u)).get n = some v := hv
        rw [T.get_set] at hv'
        split at hv'
        · rename_i hk
          subst hk
          rw [hu]; exact hv'
        · exact takes_get hus n v hv'

theorem mkT_append {g l : List (Nat × Blk)} {n : Nat} : (mkT (g ++ l)).get n = match (mkT g).get n with | some x => some x | none => (mkT l).get n := by
  induction g with
  | nil => rfl
  | cons x g ih =>
    have h1 : mkT (x :: g ++ l) = (mkT (g ++ l)).set x.1 (some x.2) := rfl
    have h2 : mkT (x :: g) = (mkT g).set x.1 (some x.2) := rfl
    rw [h1, h2, T.get_set, T.get_set]
    split
    · rfl
    · exact ih
theorem mkT_mem {l : List (Nat × Blk)} {n : Nat} {x : Blk} (h : (mkT l).get n = some x) : (n, x) ∈ l := by
  induction l with
  | nil => cases h
  | cons y l ih =>
    have h2 : mkT (y :: l) = (mkT l).set y.1 (some y.2) := rfl
    rw [h2, T.get_set] at h
    split at h
    · rename_i hy
      cases h
      subst hy
      exact List.mem_cons_self ..
    · exact List.mem_cons_of_mem _ (ih h)
theorem mkT_above {l : List (Nat × Blk)} (hl : above l = true) {n : Nat} (hn : n < 64) : (mkT l).get n = none := by
  cases h : (mkT l).get n with
  | none => rfl
  | some x =>
    have := List.all_eq_true.1 hl _ (mkT_mem h)
    rw [Nat.ble_eq] at this
    simp only at this
    omega
theorem mkT_beneath {l : List (Nat × Blk)} (hl : beneath l = true) {n : Nat} (hn : 64 ≤ n) : (mkT l).get n = none := by
  cases h : (mkT l).get n with
  | none => rfl
  | some x =>
    have := List.all_eq_true.1 hl _ (mkT_mem h)
    rw [Nat.blt_eq] at this
    simp only at this
    omega

theorem chunk_ok {call : CallF} {N n : Nat} (hm : P.follows .mixedOrders = true) (hc : CallOK P call) {g : List (Nat × Blk)} (hg : beneath g = true) {c : Code} {s s' : Snap} (hs1 : above s.hp = true) (hs2 : above s'.hp = true) {ts bs : List Nat} (he : snapOf ts bs (evCode P call n c s.toFr (s.toHp g)) = some s') (hok : codeOk N c = true)
    {m : Nat} {e : Env} {w : World} {a : Act} (r : Rel P (s.toHp g) e w) (hf : RF (s.toHp g).next e s.toFr a) (hN : N ≤ a.tmps.size) {Q : Exit → Act → World → Prop}
    (hQ : ∀ e' w' a', Rel P (s'.toHp g) e' w' → Stp (s.toHp g) e w (s'.toHp g) e' w' → RF (s'.toHp g).next e' s'.toFr a' → a'.tmps.size = a.tmps.size → Dfr w w' a.defers a'.defers → Q .normal a' w') : c.wpIn (WF none) m P Q a w := by
  unfold snapOf at he
  split at he
  case h_2 => cases he
  rename_i fr h hrun
  split at he
  case h_2 => cases he
  rename_i f b hf' hb'
  cases he
  refine (evCode_ok hm hc n).1 hrun hok r hf hN (InRound.none _ _ _) ?_
  intro e' w' a' k1 k2 k3 k4 k5
  have hlow : h.low = 64 := k2.low
  have hgl : ∀ i, i < 64 → (Snap.toHp g ⟨f, b, h.next⟩).get i = h.get i := by
    intro i hi
    rw [k2.prot i hi]
    show (mkT (g ++ b)).get i = (mkT (g ++ s.hp)).get i
    rw [mkT_append, mkT_append, mkT_above hs1 hi, mkT_above hs2 hi]
  have hsub : ∀ i x, (Snap.toHp g ⟨f, b, h.next⟩).get i = some x → h.get i = some x := fun i x hx => by
    rcases Nat.lt_or_ge i 64 with hi | hi
    · rw [← hgl i hi]; exact hx
    · refine takes_get hb' i x ?_
      have hx : (mkT (g ++ b)).get i = some x := hx
      rw [mkT_append, mkT_beneath hg hi] at hx
      exact hx
  refine hQ e' w' a' ?_ ?_ ?_ k4 k5
  · refine k1.sub hsub ⟨k1.glob.le, fun i x hx => ?_⟩ ?_
    · exact k1.hu.2 i x (hsub i x hx)
    · exact k1.glob.le
  · refine k2.trans ⟨Nat.le_refl _, Agree.refl _ _, fun i x hx => .inl ⟨i, x, hsub i x hx, rfl⟩, fun _ _ _ => rfl, Nat.le_refl _, rfl, rfl, rfl, hlow.symm, fun i hi => hgl i (by omega)⟩
  · exact ⟨k1.glob, fun t v hv => k3.vals t v (takes_get hf' t v hv)⟩

/-- from the state `s` on, the code `c` comes to the end of the function, and that gives back `v` -/
def Leads (P : Program) (g : List (Nat × Blk)) (fn : Func) (s : Snap) (c : Code) (v : Value) : Prop :=
  ∀ {m : Nat} {e : Env} {w : World} {a : Act}, Rel P (s.toHp g) e w → RF (s.toHp g).next e s.toFr a → fn.ntmps ≤ a.tmps.size → ∀ {Q : Exit → Act → World → Prop},
    (∀ ex e' w' a' h', ex = .normal ∨ ex = .ret → Rel P h' e' w' → Stp (s.toHp g) e w h' e' w' → Dfr w w' a.defers a'.defers → (∀ w'', Rel P h' e' w'' → (Go.results fn a'.tmps).run P w'' = .ok v w'') → Q ex a' w') → c.wpIn (WF none) m P Q a w

theorem Leads.seq {call : CallF} {n : Nat} (hm : P.follows .mixedOrders = true) (hc : CallOK P call) {g : List (Nat × Blk)} (hg : beneath g = true) {fn : Func} {c : Code} {s s' : Snap} {v : Value} (ts bs : List Nat) (hcs : c = .seq (headC c) (tailC c)) (hok : codeOk fn.ntmps (headC c) = true)
    (hs1 : above s.hp = true) (hs2 : above s'.hp = true) (he : snapOf ts bs (evCode P call n (headC c) s.toFr (s.toHp g)) = some s') (h : Leads P g fn s' (tailC c) v) : Leads P g fn s c v := by
  intro m e w a r hf hN Q hQ
  rw [hcs]
  refine wpIn_seq (chunk_ok hm hc hg hs1 hs2 he hok r hf hN ?_)
  intro e' w' a' k1 k2 k3 k4 k5
  show (tailC c).wpIn (WF none) m P Q a' w'
  refine h k1 k3 (by rw [k4]; exact hN) ?_
  intro ex e'' w'' a'' h'' hex q1 q2 q3 q4
  exact hQ ex e'' w'' a'' h'' hex q1 (k2.trans q2) (k5.trans q3 k1 q2 k2.size) q4

/-- a value without memory -/
theorem Leads.last {call : CallF} {n : Nat} (hm : P.follows .mixedOrders = true) (hc : CallOK P call) {g : List (Nat × Blk)} {fn : Func} {c : Code} {s : Snap} {b : Bool} (hok : codeOk fn.ntmps c = true)
    (he : lastVal P fn.results.toList (evCode P call n c s.toFr (s.toHp g)) = some [.bool b]) : Leads P g fn s c (.bool b) := by
  intro m e w a r hf hN Q hQ
  have key : ∀ {out : Out} {fr : Fr} {h : Hp}, evCode P call n c s.toFr (s.toHp g) = some (out, fr, h) → out = .normal ∨ out = .ret → Ev.results P fr h fn.results.toList = some [.bool b] → c.wpIn (WF none) m P Q a w := by
    intro out fr h hrun hout hres
    refine (evCode_ok hm hc n).1 hrun hok r hf hN (InRound.none _ _ _) ?_
    intro e' w' a' k1 k2 k3 k4 k5
    refine hQ (exOf out) e' w' a' h (by rcases hout with rfl | rfl <;> simp [exOf]) k1 k2 k5 fun w'' r'' => ?_
    obtain ⟨vs', h1, h2⟩ := results_ok r'' k3 hres
    have : vs' = [.bool b] := by rw [h1.2]; simp [conc]
    subst this
    rw [results_eq]
    have hrun : (fn.results.mapM (resF a'.tmps)).run P w'' = .ok #[.bool b] w'' := by
      rw [Array.mapM_eq_mapM_toList, ← bind_pure_comp]
      simp only [Sem.run_bind, h2, Result.andThen_ok, Sem.run_pure]
    simp only [Sem.run_bind, hrun, Result.andThen_ok, Sem.run_pure]
    rfl
  unfold lastVal at he
  split at he
  · rename_i fr h hrun
    exact key hrun (.inl rfl) he
  · rename_i fr h hrun
    exact key hrun (.inr rfl) he
  · cases he

def iv0 (b : Bool) : { p : Int × Int // okPair p = b } :=
  match b with
  | true => ⟨(0, 0), by decide⟩
  | false => ⟨(1, 0), by decide⟩
def env0 : Env := ⟨fun b => b, fun _ => 0, fun _ => 0, iv0⟩

/-- package-level variables whose cells are known -/
def laidG (w : World) (ty : Nat → TypeId) (g : List (Nat × List Value)) : Prop := ∀ x ∈ g, w.heap[x.1]? = some (.cells ⟨x.2⟩ (ty x.1) (0, 0))
noncomputable def blksOf (ty : Nat → TypeId) (g : List (Nat × List Value)) : List (Nat × Blk) := g.map fun x => (x.1, .cells x.2 (ty x.1) false)
noncomputable def plainG (g : List (Nat × List Value)) : Bool := g.all fun x => Nat.blt x.1 64 && x.2.all plainCell
theorem plainG_beneath {ty : Nat → TypeId} {g : List (Nat × List Value)} (h : plainG g = true) : beneath (blksOf ty g) = true := by
  refine List.all_eq_true.2 fun y hy => ?_
  obtain ⟨x, hx, rfl⟩ := List.mem_map.1 hy
  have := List.all_eq_true.1 h x hx
  rw [Bool.and_eq_true] at this
  exact this.1
theorem RC_plain {l : List Value} (h : l.all plainCell = true) (n : Nat) (e : Env) : RC n e l l := by
  have hp : ∀ v ∈ l, plain v = true ∧ one v = true := fun v hv => by
    have := List.all_eq_true.1 h v hv
    cases v <;> simp_all [plain, plainCell, one]
  refine ⟨⟨fun v hv => (plain_ok (hp v hv).1 n e).under, ?_⟩, fun v hv => (hp v hv).2⟩
  exact (List.map_id' l).symm.trans (List.map_congr_left fun v hv => (plain_ok (hp v hv).1 n e).eq)
theorem mkT_key {ty : Nat → TypeId} {g : List (Nat × List Value)} (hp : plainG g = true) {b : Nat} {x : Blk} (h : (mkT (blksOf ty g ++ [])).get b = some x) : b < 64 := by
  rw [List.append_nil] at h
  obtain ⟨y, hy, he⟩ := List.mem_map.1 (mkT_mem h)
  cases he
  have h1 := List.all_eq_true.1 hp y hy
  rw [Bool.and_eq_true, Nat.blt_eq] at h1
  exact h1.1
theorem laidG_rel {w : World} {ty : Nat → TypeId} {g : List (Nat × List Value)} (hp : plainG g = true) (hl : laidG w ty g) {e : Env} (hfix : ∀ b, b < 64 → e.phi b = b) {n : Nat} (hn : 64 ≤ n) : Rel P ⟨mkT (blksOf ty g ++ []), n, 64⟩ e w := by
  refine ⟨fun b x hb => ?_, fun b c x y hb hc he => ?_, hn, ⟨hn, hfix⟩⟩
  rotate_left
  · rw [hfix b (mkT_key hp hb), hfix c (mkT_key hp hc)] at he; exact he
  have hb : (mkT (blksOf ty g ++ [])).get b = some x := hb
  rw [List.append_nil] at hb
  obtain ⟨y, hy, he⟩ := List.mem_map.1 (mkT_mem hb)
  cases he
  have h1 := List.all_eq_true.1 hp y hy
  rw [Bool.and_eq_true, Nat.blt_eq] at h1
  exact ⟨Nat.lt_of_lt_of_le h1.1 hn, ⟨y.2⟩, by rw [hfix _ h1.1]; exact hl y hy, RC_plain h1.2 _ _⟩
/-- what was laid stays, and what was there too -/
theorem laidG_below {w w' : World} {ty : Nat → TypeId} {g : List (Nat × List Value)} {h' : Hp} {e' : Env} (hp : plainG g = true) (hl : laidG w ty g) {e : Env} (hfix : ∀ b, b < 64 → e.phi b = b) {n : Nat} (r : Rel P h' e' w') (s : Stp ⟨mkT (blksOf ty g ++ []), n, 64⟩ e w h' e' w') : Below w.heap.size w w' := by
  refine ⟨s.os, s.tape, s.output, s.size, fun k hk => ?_⟩
  by_cases hx : ∃ x, (mkT (blksOf ty g ++ [])).get k = some x
  · obtain ⟨x, hx⟩ := hx
    have hx2 := hx
    rw [List.append_nil] at hx2
    obtain ⟨y, hy, he⟩ := List.mem_map.1 (mkT_mem hx2)
    cases he
    have h1 := List.all_eq_true.1 hp y hy
    rw [Bool.and_eq_true, Nat.blt_eq] at h1
    have h2 : h'.get y.1 = some (.cells y.2 (ty y.1) false) := by rw [s.prot y.1 h1.1]; exact hx
    obtain ⟨_, cs, h3, h4⟩ := r.lies _ _ h2
    rw [r.glob.fix y.1 h1.1] at h3
    have h5 : cs = ⟨y.2⟩ := by
      have h6 : RC h'.next e' y.2 cs.toList := h4
      have h7 := h6.rl.2
      have h8 := (RC_plain h1.2 h'.next e').rl.2
      rw [← h8] at h7
      cases cs
      simp only at h7
      rw [h7]
    rw [h3, h5, hl y hy]
  · refine s.keep k hk fun b x hb he => ?_
    have hb : (mkT (blksOf ty g ++ [])).get b = some x := hb
    rw [hfix b (mkT_key hp hb)] at he
    subst he
    exact hx ⟨x, hb⟩

/-- a function without parameters that leads to `v` -/
theorem Leads.calls {ty : Nat → TypeId} {g : List (Nat × List Value)} (hp : plainG g = true) {f : FuncId} {fn : Func} {c : Code} {v : Value} (hf : P.funcs[f]? = some fn) (hb : fn.body = some c) (h : Leads P (blksOf ty g) fn ⟨[], [], 64⟩ c v) (w : World) (hl : laidG w ty g) :
    Calls P f #[] w fun en w' => en = .returned v ∧ Below w.heap.size w w' := by
  have r0 : Rel P (Snap.toHp (blksOf ty g) ⟨[], [], 64⟩) env0 w := laidG_rel hp hl (fun _ _ => rfl) (Nat.le_refl _)
  refine callsIn_wide.1 (callsIn_of_wp_marks (F := Fence.wide) (n := 0) hf hb trivial ?_)
  refine h (m := 0) r0 ⟨r0.glob, fun t v hv => (by cases hv)⟩ (by simp) ?_
  intro ex e' w' a' h' hex k1 k2 k3 k4
  have fin : LeavesInM Fence.wide 0 P fn a'.tmps (fun en w' => en = .returned v ∧ Below w.heap.size w w') a'.defers .returning w' := by
    obtain ⟨ms, q1, q2, q3⟩ := k3
    rw [q1, List.append_nil]
    exact leaves_marks ms w' k1 k2 q2 q3 fun w'' r'' s'' => ⟨v, k4 w'' r'', rfl, laidG_below hp hl (fun _ _ => rfl) r'' s''⟩
  rcases hex with rfl | rfl
  · exact fin
  · exact fin

end Go.Ev
namespace Go.Ev
open Go.RowKit
variable {P : Program}

theorem Rel.below {h : Hp} {e : Env} {w w' : World} (r : Rel P h e w) (b : Below w.heap.size w w') : Rel P h e w' ∧ Stp h e w h e w' := by
  have hk : ∀ k, k < w.heap.size → w'.heap[k]? = w.heap[k]? := b.block
  exact ⟨⟨fun i x hi => ⟨(r.lies i x hi).1, (r.lies i x hi).2.mono (r.lies i x hi).1 (Nat.le_refl _) (Agree.refl _ _) (hk _ (r.lt hi))⟩, r.inj, r.low, r.glob⟩,
    ⟨Nat.le_refl _, Agree.refl _ _, fun i x hi => .inl ⟨i, x, hi, rfl⟩, fun k h1 _ => hk k h1, b.size, b.os, b.tape, b.output, rfl, fun _ _ => rfl⟩⟩

/-- are the package-level variables as known -/
noncomputable def heldG (h : Hp) (g : List (Nat × List Value)) : Bool := g.all fun x => Nat.blt x.1 64 && x.2.all plainCell && match h.get x.1 with
  | some (.cells c el false) => sameCells c x.2
  | _ => false
noncomputable def tyOf (h : Hp) (b : Nat) : TypeId := match h.get b with | some (.cells _ el _) => el | _ => 0
theorem heldG_laid {h : Hp} {g : List (Nat × List Value)} (hh : heldG h g = true) {e : Env} {w : World} (r : Rel P h e w) : laidG w (tyOf h) g := by
  intro x hx
  have h1 := List.all_eq_true.1 hh x hx
  rw [Bool.and_eq_true, Bool.and_eq_true, Nat.blt_eq] at h1
  obtain ⟨⟨h1, h2⟩, h3⟩ := h1
  split at h3
  case h_2 => cases h3
  rename_i c el hg
  have h4 := (sameCells_eq h3).1
  have h5 : tyOf h x.1 = el := by unfold tyOf; rw [hg]
  subst h4
  obtain ⟨_, cs, h6, h7⟩ := r.lies _ _ hg
  rw [r.glob.fix x.1 h1] at h6
  have h8 : RC h.next e x.2 cs.toList := h7
  have h9 := (RC_plain h2 h.next e).rl.2
  have h10 := h8.rl.2
  rw [← h9] at h10
  cases cs
  simp only at h10
  rw [h6, h10, h5]

/-- a function without parameters of which it is known that it gives true -/
noncomputable def trueOf (g : List (Nat × List Value)) : List Value → Hp → Option (Value × Hp)
  | [], h => bif heldG h g then some (.bool true, h) else none
  | _, _ => none
theorem trueOf_ok {g : List (Nat × List Value)} {f : FuncId} {fn : Func} {c : Code} (hf : P.funcs[f]? = some fn) (hb : fn.body = some c) (hn : (fn.name == "runtime.NumGoroutine") = false)
    (hc : ∀ w ty, laidG w ty g → Calls P f #[] w fun en w' => en = .returned (.bool true) ∧ Below w.heap.size w w') :
    (∃ fn c, P.funcs[f]? = some fn ∧ fn.body = some c ∧ fn.name ≠ "runtime.NumGoroutine") ∧
    ∀ args h v h', trueOf g args h = some (v, h') → ∀ e w args', Rel P h e w → RL h.next e args args' → CallsTo P f args' h e w v h' := by
  refine ⟨⟨fn, c, hf, hb, by simpa using hn⟩, fun args h v h' ht e w args' r hl => ?_⟩
  unfold trueOf at ht
  split at ht
  · cases hh : heldG h g with
    | false => rw [hh] at ht; cases ht
    | true =>
    rw [hh] at ht
    cases ht
    have : args' = [] := hl.2
    subst this
    refine Calls.mono (hc w _ (heldG_laid hh r)) ?_
    rintro en w' ⟨rfl, hbel⟩
    obtain ⟨h1, h2⟩ := r.below hbel
    exact ⟨e, _, rfl, h1, h2, RV.bool⟩
  · cases ht

/-- the evaluator's answer is true -/
noncomputable def isTrue (r : Option (Value × Hp)) : Bool :=
  match r with
  | some (.bool b, _) => b
  | _ => false

/-- where the evaluator says true, the call gives true -/
theorem law_at {ty : Nat → TypeId} {g : List (Nat × List Value)} (hp : plainG g = true) {ext : Ext} {n : Nat} {f : FuncId} {args args' : List Value} (hc : CallOK P (evCall P ext n)) {e : Env} (hfix : ∀ b, b < 64 → e.phi b = b) {m : Nat} (hm : 64 ≤ m) (ha : RL m e args args')
    (he : isTrue (evCall P ext n (.func f) args ⟨mkT (blksOf ty g ++ []), m, 64⟩) = true) (w : World) (hl : laidG w ty g) :
    Calls P f args'.toArray w fun en w' => en = .returned (.bool true) ∧ Below w.heap.size w w' := by
  unfold isTrue at he
  split at he
  · rename_i b h' hrun
    subst he
    have r0 : Rel P ⟨mkT (blksOf ty g ++ []), m, 64⟩ e w := laidG_rel hp hl hfix hm
    refine Calls.mono ((hc.func _ _ _ _ _ hrun).2 e w args' r0 ha) ?_
    rintro en w' ⟨e', v', rfl, r, s, hv⟩
    exact ⟨by rw [hv.eq]; rfl, laidG_below hp hl hfix r s⟩
  · cases he

theorem RV.plain' {v : Value} (h : plain v = true) (n : Nat) (e : Env) : RV n e v v := plain_ok h n e
/-- a slice of whatever: the evaluator's block 64 -/
theorem RV.slice64 (a : Addr) (h : a.spot = none) (len cap : Nat) {n : Nat} (hn : 64 < n) : RV n ⟨fun b => bif Nat.beq b 64 then a.block else b, fun _ => cap, fun _ => a.off, iv0⟩ (.slice (some ⟨64, 0, some 0⟩) len OPEN) (.slice (some a) len cap) := by
  refine ⟨?_, ?_⟩
  · simp only [Ev.under]
    rintro x hx
    cases hx
    exact hn
  · cases a with
    | mk b o s =>
      simp only at h
      subst h
      simp [conc, cA, cCap]
theorem fix64 (a : Addr) (cap : Nat) : ∀ b, b < 64 → (⟨fun b => bif Nat.beq b 64 then a.block else b, fun _ => cap, fun _ => a.off, iv0⟩ : Env).phi b = b := by
  intro b hb
  have : Nat.beq b 64 = false := by
    cases h : Nat.beq b 64 with
    | false => rfl
    | true => have := Nat.eq_of_beq_eq_true h; omega
  simp [this]

/-- .. at plain arguments -/
theorem law_ok {ty : Nat → TypeId} {g : List (Nat × List Value)} (hp : plainG g = true) {ext : Ext} {n : Nat} {f : FuncId} {args : List Value} (hc : CallOK P (evCall P ext n)) (ha : ∀ v ∈ args, plain v = true) (he : isTrue (evCall P ext n (.func f) args ⟨mkT (blksOf ty g ++ []), 64, 64⟩) = true) (w : World) (hl : laidG w ty g) :
    Calls P f args.toArray w fun en w' => en = .returned (.bool true) ∧ Below w.heap.size w w' :=
  law_at hp hc (e := env0) (fun _ _ => rfl) (Nat.le_refl _) ⟨fun v hv => (plain_ok (ha v hv) _ env0).under, (List.map_id' args).symm.trans (List.map_congr_left fun v hv => (plain_ok (ha v hv) 0 env0).eq)⟩ he w hl

end Go.Ev
