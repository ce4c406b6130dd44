/- The evaluator's appends, equalities, built-in functions and calls do in a world what they do in it. -/
import Derived.Test.YtnddlpfmagdbfaaGreatDoorEvA
import Derived.Laws.StructEq
import Derived.OrdersIn
import Derived.TacticsIn
import Derived.RangeFuncIn
import Derived.RangeFuncRecord
import Derived.RangeFuncNested
import Derived.RangeFuncLeaves
set_option linter.unusedVariables false
set_option linter.unusedSimpArgs false
namespace Go.Ev
variable {P : Program}

theorem next_le {need cap : Nat} (h : cap < need) : Builtin.nextslicecap need cap ≤ 4 * need + 2000 := by
  unfold Builtin.nextslicecap
  split
  · omega
  · split
    · omega
    · simp only [Builtin.growBy]
      repeat' split
      all_goals omega

/-- what is appended, as the model takes it -/
inductive App (P : Program) (w : World) (el sz : Nat) (t' : TypeId) (x : Value) (n : Nat) (new : Array Value) : Prop
  | row (d : TypeDesc) (hd : P.underlying t' = some d) (hk : ∀ k, d ≠ .int k) (hl : ∀ d, (Builtin.lenOf x).run P { w with drawn := d } = .ok n { w with drawn := d })
      (hf : ∀ d, (Builtin.firstCells sz n x).run P { w with drawn := d } = .ok new { w with drawn := d })
  | zeros (k k' : IntKind) (hd : P.underlying t' = some (.int k)) (hx : x = .int k' (n : Int)) (hn : n ≤ 65536) (i : TypeInfo) (hi : P.info? el = some i) (hb : (n : Int) * (i.bytes : Int) ≤ 2 ^ 48) (z : Value)
      (hz : ∀ w, (zeroValue el).run P w = .ok z w) (hnew : n * sz = 0 → new = #[]) (hnew' : n * sz ≠ 0 → new = Builtin.zeroCells z.cells n)

theorem small_i64 {n : Nat} (h : n ≤ 65536) : IntKind.i64.wrap (n : Int) = (n : Int) := wrap_small (k := .i64) (n := n) (by simp [topOf]; omega)

theorem append_inplace {w w' : World} {t t' ty el sz n sl cap : Nat} {x : Value} {new : Array Value} {ts : List TypeId} {xs : List Value} {base : Option Addr} (hu : P.underlying t = some (.slice el)) (hs : szOf P el = some sz)
    (ha : App P w el sz t' x n new) (hle : sl + n ≤ cap) (hst : ∀ a, base = some a → (storeCells (a.add (sl * sz)) new.toList).run P w = .ok () w') (hno : base = none → w' = w) :
    (Builtin.append_ (t :: t' :: ts).toArray ty (.slice base sl cap :: x :: xs).toArray).run P w = .ok (.slice base (sl + n) cap) w' := by
  have fin : ∀ {s : Sem Value}, s.run P w = (Result.ok (.slice base (sl + n) cap) w' : Result Value) → s.run P w = .ok (.slice base (sl + n) cap) w' := fun h => h
  cases ha with
  | row d hd hk hl hf =>
    have hl := hl w.drawn
    have hf := hf w.drawn
    unfold Builtin.append_
    cases d with
    | int k => exact absurd rfl (hk k)
    | _ =>
      simp only [List.getElem?_toArray, List.getElem?_cons_zero, List.getElem?_cons_succ, Sem.run_bind, und hu, und hd, Result.andThen_ok, szOf_run hs, Sem.run_pure, Bool.false_eq_true, if_false, hl, Bool.not_false, if_true, if_pos hle, hf]
      cases base with
      | none => simp only [Sem.run_pure, hno rfl]
      | some a => simp only [Sem.run_bind, hst a rfl, Result.andThen_ok, Sem.run_pure]
  | zeros k k' hd hx hn i hi hb z hz hnew hnew' =>
    have hti : (typeInfo el).run P w = .ok i w := by simp [typeInfo, program, Sem.run_bind, Sem.run, hi]
    have hneg : ¬ ((n : Int) < 0) := by omega
    have hbig : ¬ ((n : Int) * (i.bytes : Int) > 2 ^ 48) := Int.not_lt.2 hb
    unfold Builtin.append_
    simp only [List.getElem?_toArray, List.getElem?_cons_zero, List.getElem?_cons_succ, Sem.run_bind, und hu, und hd, Result.andThen_ok, szOf_run hs, Sem.run_pure, if_true, hx, asInt, asIntOf, small_i64 hn, if_neg hneg, hti, if_neg hbig, Int.toNat_natCast,
      Bool.not_true, Bool.false_eq_true, if_false, if_pos hle]
    by_cases h0 : n * sz = 0
    · have := hnew h0
      subst this
      simp only [if_pos h0, Sem.run_pure, Result.andThen_ok]
      cases base with
      | none => simp only [Sem.run_pure, hno rfl]
      | some a => simp only [Sem.run_bind, hst a rfl, Result.andThen_ok, Sem.run_pure]
    · have := hnew' h0
      subst this
      simp only [if_neg h0, Sem.run_pure, Sem.run_bind, hz, Result.andThen_ok]
      cases base with
      | none => simp only [Sem.run_pure, hno rfl]
      | some a => simp only [Sem.run_bind, hst a rfl, Result.andThen_ok, Sem.run_pure]

theorem append_grow {w : World} {t t' ty el sz n sl cap by_ : Nat} {x zv : Value} {new old : Array Value} {ts : List TypeId} {xs : List Value} {base : Option Addr} (hu : P.underlying t = some (.slice el)) (hs : szOf P el = some sz)
    (hby : bytesOf P el = some by_) (ha : App P w el sz t' x n new) (hgt : ¬ sl + n ≤ cap) (hroom : roomOk by_ (sl + n) = true)
    (hold : ∀ d, (Builtin.firstCells sz sl (.slice base sl cap)).run P { w with drawn := d } = .ok old { w with drawn := d })
    (hz : ∀ w, (zeroValue el).run P w = .ok zv w) :
    ∃ newCap, sl + n ≤ newCap ∧ (Builtin.append_ (t :: t' :: ts).toArray ty (.slice base sl cap :: x :: xs).toArray).run P w =
      .ok (.slice (some ⟨w.heap.size, 0, none⟩) (sl + n) newCap) { World.alloc' w (.cells (old ++ new ++ Builtin.zeroCells zv.cells (newCap - (sl + n))) el (0, 0)) with drawn := w.drawn + 1 } := by
  obtain ⟨inf, hi1, hi2⟩ := bytesOf_inv hby
  unfold roomOk at hroom
  rw [Bool.and_eq_true] at hroom
  have hr1 : sl + n ≤ 1099511627776 := Nat.le_of_ble_eq_true hroom.1
  have hr2 : (4 * (sl + n) + 2000) * by_ ≤ 281474976710656 := Nat.le_of_ble_eq_true hroom.2
  have hnx : ¬ (Builtin.nextslicecap (sl + n) cap * inf.bytes > 2 ^ 48) := by
    have h1 := Nat.mul_le_mul_right by_ (next_le (need := sl + n) (cap := cap) (by omega))
    rw [hi2]
    have e48 : (2 : Nat) ^ 48 = 281474976710656 := by simp
    rw [e48]
    omega
  have hmax : ∀ q : Prop, ¬ (((sl + n : Nat) : Int) > IntKind.i64.max ∧ q) := by
    intro q hc
    have h1 := hc.1
    simp [IntKind.max, IntKind.signed, IntKind.bits] at h1
    omega
  have hti : ∀ w, (typeInfo el).run P w = .ok inf w := fun w => by simp [typeInfo, program, Sem.run_bind, Sem.run, hi1]
  have hask : ∀ (b : Nat) (w : World), (askRoom b).run P w = .ok () w := fun b w => by unfold askRoom; split <;> rfl
  let newCap := (Question.appendCap (sl + n) cap el).cut (w.tape w.drawn (Question.appendCap (sl + n) cap el))
  have hchoose : (choose (.appendCap (sl + n) cap el)).run P w = .ok newCap { w with drawn := w.drawn + 1 } := rfl
  have hrow : ∀ c : Array Value, (newRow el c).run P { w with drawn := w.drawn + 1 } = .ok ⟨w.heap.size, 0, none⟩ { World.alloc' w (.cells c el (0, 0)) with drawn := w.drawn + 1 } := fun c => rfl
  refine ⟨newCap, Nat.le_add_right _ _, ?_⟩
  have hold := hold (w.drawn + 1)
  cases ha with
  | row d hd hk hl hf =>
    have hl := hl w.drawn
    have hf := hf (w.drawn + 1)
    unfold Builtin.append_
    cases d with
    | int k => exact absurd rfl (hk k)
    | _ =>
      simp only [List.getElem?_toArray, List.getElem?_cons_zero, List.getElem?_cons_succ, Sem.run_bind, und hu, und hd, Result.andThen_ok, szOf_run hs, Sem.run_pure, Bool.false_eq_true, if_false, hl, Bool.not_false, if_true, if_neg hgt, hti, if_neg (hmax _), if_neg hnx,
        hchoose, hask, hold, hf, hz, hrow]
  | zeros k k' hd hx hn i hi hb z hz' hnew hnew' =>
    rw [hi1] at hi
    cases hi
    have hneg : ¬ ((n : Int) < 0) := by omega
    have hbig : ¬ ((n : Int) * (inf.bytes : Int) > 2 ^ 48) := Int.not_lt.2 hb
    unfold Builtin.append_
    simp only [List.getElem?_toArray, List.getElem?_cons_zero, List.getElem?_cons_succ, Sem.run_bind, und hu, und hd, Result.andThen_ok, szOf_run hs, Sem.run_pure, if_true, hx, asInt, asIntOf, small_i64 hn, if_neg hneg, hti, if_neg hbig, Int.toNat_natCast,
      Bool.not_true, Bool.false_eq_true, if_false, if_neg hgt, if_neg (hmax _), if_neg hnx, hchoose, hask, hold]
    by_cases h0 : n * sz = 0
    · have := hnew h0
      subst this
      simp only [if_pos h0, Sem.run_pure, Result.andThen_ok, hz, hrow]
    · have := hnew' h0
      subst this
      have : z = zv := by have h1 := hz' w; rw [hz w] at h1; cases h1; rfl
      subst this
      simp only [if_neg h0, Sem.run_pure, Sem.run_bind, hz, Result.andThen_ok, hrow]

end Go.Ev
namespace Go.Ev
variable {P : Program}

/-- a block is forgotten -/
theorem Rel.drop {h : Hp} {e : Env} {w : World} (r : Rel P h e w) {b : Nat} (hb : h.low ≤ b) : Rel P (h.put b none) e w ∧ Stp h e w (h.put b none) e w := by
  have hsub : ∀ c x, (h.put b none).get c = some x → h.get c = some x := fun c x hc => by
    rw [Hp.get_put] at hc
    split at hc
    · cases hc
    · exact hc
  exact ⟨⟨fun c x hc => r.lies c x (hsub c x hc), fun c d x y hc hd he => r.inj c d x y (hsub c x hc) (hsub d y hd) he, r.low, r.glob⟩,
    ⟨Nat.le_refl _, Agree.refl _ _, fun c x hc => .inl ⟨c, x, hsub c x hc, rfl⟩, fun _ _ _ => rfl, Nat.le_refl _, rfl, rfl, rfl, rfl, fun c hc => by
      rw [Hp.get_put, if_neg]; omega⟩⟩

/-- a block goes on under another number -/
theorem Rel.move {h : Hp} {e : Env} {w w' : World} (r : Rel P h e w) {b : Nat} {y x : Blk} {o : Obj} {k : Nat} (hg : h.get b = some y) (hb : h.low ≤ b) (hw : Wrote (e.phi b) o w w')
    (hx : Lies P (h.next + 1) (e.ext h.next (e.phi b) k) h.next x w') :
    Rel P ((h.put b none).new x) (e.ext h.next (e.phi b) k) w' ∧ Stp h e w ((h.put b none).new x) (e.ext h.next (e.phi b) k) w' := by
  have hag := e.ext_agree h.next (e.phi b) k
  have hget : ∀ c z, ((h.put b none).new x).get c = some z → (c = h.next ∧ z = x) ∨ (c ≠ h.next ∧ c ≠ b ∧ h.get c = some z) := fun c z hc => by
    rw [Hp.get_new] at hc
    split at hc
    · rename_i hn
      cases hc
      exact .inl ⟨hn.symm, rfl⟩
    · rename_i hn
      rw [Hp.get_put] at hc
      split at hc
      · cases hc
      · rename_i hn2
        exact .inr ⟨fun hc => hn hc.symm, fun hc => hn2 hc.symm, hc⟩
  refine ⟨⟨fun c z hc => ?_, fun c d z z' hc hd he => ?_, by simp; have := r.low; omega, r.glob.mono (by simp) hag⟩, ⟨by simp, hag, fun c z hc => ?_, fun i hi hn => ?_, Nat.le_of_eq hw.size.symm, hw.os, hw.tape, hw.output, rfl, fun c hc => ?_⟩⟩
  · rcases hget c z hc with ⟨rfl, rfl⟩ | ⟨h1, h2, h3⟩
    · exact ⟨by simp, hx⟩
    · obtain ⟨h4, h5⟩ := r.lies c z h3
      refine ⟨by simp; omega, h5.mono h4 (by simp) hag (hw.other _ fun hc => h2 ?_)⟩
      exact r.inj c b z y h3 hg hc
  · rcases hget c z hc with ⟨rfl, rfl⟩ | ⟨h1, h2, h3⟩ <;> rcases hget d z' hd with ⟨rfl, rfl⟩ | ⟨g1, g2, g3⟩
    · rfl
    · rw [Env.ext_phi, (hag d (r.lies d z' g3).1).1] at he
      exact absurd (r.inj b d y z' hg g3 he).symm g2
    · rw [Env.ext_phi, (hag c (r.lies c z h3).1).1] at he
      exact absurd (r.inj c b z y h3 hg he) h2
    · rw [(hag c (r.lies c z h3).1).1, (hag d (r.lies d z' g3).1).1] at he
      exact r.inj c d z z' h3 g3 he
  · rcases hget c z hc with ⟨rfl, rfl⟩ | ⟨h1, h2, h3⟩
    · exact .inl ⟨b, y, hg, by simp⟩
    · exact .inl ⟨c, z, h3, ((hag c (r.lies c z h3).1).1).symm⟩
  · exact hw.other i (fun hc => hn b y hg hc.symm)
  · rw [Hp.get_new, if_neg (by have := r.low; simp; omega), Hp.get_put, if_neg (by omega)]

theorem cellsAt_ok {h : Hp} {e : Env} {w : World} (r : Rel P h e w) {a : Option Addr} {k sz n c : Nat} {l : List Value} (hn : n = k * sz) (hc : cellsAt h a n = some l) :
    l.length = n ∧ ∃ l' : Array Value, RC h.next e l l'.toList ∧ ∀ d, (Builtin.firstCells sz k (.slice (a.map (cA e)) c c)).run P { w with drawn := d } = .ok l' { w with drawn := d } := by
  subst hn
  unfold cellsAt at hc
  cases h0 : Nat.beq (k * sz) 0 with
  | true =>
    rw [h0, cond_true] at hc
    cases hc
    have h0 := Nat.eq_of_beq_eq_true h0
    refine ⟨by simp [h0], #[], RC.nil, fun d => ?_⟩
    cases a with
    | none => rfl
    | some a => simp only [Option.map_some, Builtin.firstCells, h0]; rfl
  | false =>
    rw [h0, cond_false] at hc
    split at hc
    · cases hc
    · rename_i a
      obtain ⟨h1, _⟩ := rd_ok r hc
      refine ⟨h1, ?_⟩
      obtain ⟨l', h2, _⟩ := loadCells_run r hc
      refine ⟨l'.toArray, by simpa using h2, fun d => ?_⟩
      obtain ⟨l'', h3, h4⟩ := loadCells_run (r.draw d) hc
      have : l'' = l' := by rw [h3.rl.2, h2.rl.2]
      subst this
      exact h4

theorem firstCells_cap {sz k c c' : Nat} {a : Option Addr} {n n' : Nat} : Builtin.firstCells sz k (.slice a n c) = Builtin.firstCells sz k (.slice a n' c') := by
  cases a <;> rfl

theorem zeroL_all {t : TypeId} {z : List Value} (h : zeroL P t = some z) : ∃ v, (∀ w, (zeroValue t).run P w = .ok v w) ∧ v.cells.toList = z ∧ ∀ x ∈ z, plainCell x = true := by
  unfold zeroL at h
  cases hi : P.info? t with
  | none => rw [hi] at h; cases h
  | some i =>
    rw [hi] at h
    cases hz : i.zero with
    | none => simp only [hz] at h; cases h
    | some v =>
      simp only [hz] at h
      cases hp : v.cells.toList.all plainCell with
      | false => rw [hp] at h; cases h
      | true =>
        rw [hp] at h
        cases h
        exact ⟨v, fun w => by simp [zeroValue, typeInfo, program, Sem.run_bind, Sem.run, hi, hz], rfl, fun x hx => List.all_eq_true.1 hp x hx⟩

theorem zeroCells_toList (z : Array Value) (n : Nat) : (Builtin.zeroCells z n).toList = repeatL z.toList n := range_map_repeat z n _ rfl

theorem newOf_ok {h : Hp} {e : Env} {w : World} (r : Rel P h e w) {t' el sz by_ n : Nat} {x x' : Value} {new : List Value} (hx : RV h.next e x x') (hs : szOf P el = some sz) (hby : bytesOf P el = some by_)
    (ho : newOf P h t' el sz by_ x = some (n, new)) : new.length = n * sz ∧ ∃ new' : Array Value, RC h.next e new new'.toList ∧ App P w el sz t' x' n new' := by
  unfold newOf at ho
  split at ho
  · rename_i el' xb m c hd
    obtain ⟨hlt, rfl⟩ := hx.slice_inv
    split at ho
    · cases ho
    · rename_i l hl
      cases ho
      obtain ⟨h1, l', h2, h3⟩ := cellsAt_ok (P := P) (k := n) (sz := sz) (c := 0) r rfl hl
      refine ⟨h1, l', h2, .row _ hd (fun k hk => by cases hk) (fun d => rfl) (fun d => ?_)⟩
      rw [firstCells_cap (n' := 0) (c' := 0)]
      exact h3 d
  · rename_i k k' m hd
    have hiv := hx.int_inv
    cases hk : (Nat.ble m 65536 && Nat.ble (Nat.mul m by_) 281474976710656) with
    | false => rw [hk] at ho; cases ho
    | true =>
      rw [hk, cond_true] at ho
      rw [Bool.and_eq_true] at hk
      have h1 := Nat.le_of_ble_eq_true hk.1
      have h2 : m * by_ ≤ 281474976710656 := Nat.le_of_ble_eq_true hk.2
      split at ho
      · cases ho
      · rename_i z hz
        cases hk2 : Nat.beq z.length sz with
        | false => rw [hk2] at ho; cases ho
        | true =>
          rw [hk2] at ho
          cases ho
          have hzl := Nat.eq_of_beq_eq_true hk2
          obtain ⟨zv, hz1, hz2, hz3⟩ := zeroL_all hz
          obtain ⟨inf, hi1, hi2⟩ := bytesOf_inv hby
          have hzs : zv.cells.size = sz := by rw [← Array.length_toList, hz2, hzl]
          refine ⟨by rw [repeatL_length, hzl], Builtin.zeroCells zv.cells n, ?_, .zeros k k' hd hiv h1 inf hi1 ?_ zv hz1 (fun h0 => ?_) (fun _ => rfl)⟩
          · rw [zeroCells_toList, hz2]
            exact RC.plain (fun x hx => hz3 x (repeatL_mem hx)) _ _
          · rw [hi2, ← Int.natCast_mul]
            have e48 : (2 : Int) ^ 48 = ((281474976710656 : Nat) : Int) := by simp
            rw [e48]
            exact Int.ofNat_le.2 h2
          · apply Array.ext'
            rw [zeroCells_toList, hz2]
            exact List.length_eq_zero_iff.1 (by rw [repeatL_length, hzl, h0])
  · rename_i s hd
    have hx' : x' = .string s := by have := hx.eq; simpa [conc] using this
    subst hx'
    cases hk : Nat.beq sz 1 with
    | false => rw [hk] at ho; cases ho
    | true =>
      rw [hk] at ho
      cases ho
      have h1 := Nat.eq_of_beq_eq_true hk
      subst h1
      refine ⟨by unfold bytesL; rw [List.length_map, Array.length_toList, Nat.mul_one]; rfl, (bytesL s).toArray, ?_, .row _ hd (fun k hk => by cases hk) (fun d => rfl) (fun d => ?_)⟩
      · refine RC.plain (fun x hx => ?_) _ _
        simp only [bytesL, List.mem_map] at hx
        obtain ⟨b, _, rfl⟩ := hx
        rfl
      · simp only [Builtin.firstCells, Sem.run_pure]
        congr 1
        have : s.extract 0 s.size = s := by
          apply ByteArray.ext
          rw [ByteArray.data_extract]
          exact Array.extract_size
        rw [this]
        apply Array.ext'
        simp [bytesL]
  · cases ho

end Go.Ev
namespace Go.Ev
variable {P : Program}

/-- a new open row -/
theorem Rel.open {h : Hp} {e : Env} {w w' : World} (r : Rel P h e w) {el sz n k : Nat} {c : List Value} {cs zs : Array Value} (hs : szOf P el = some sz) (hc : RC h.next e c cs.toList) (hl : c.length = n * sz)
    (hle : n ≤ k) (hz : zs.size = sz) (hw : w' = { World.alloc' w (.cells (cs ++ Builtin.zeroCells zs (k - n)) el (0, 0)) with drawn := w'.drawn }) :
    Rel P (h.new (.cells c el true)) (e.ext h.next w.heap.size k) w' ∧ Stp h e w (h.new (.cells c el true)) (e.ext h.next w.heap.size k) w' := by
  refine r.new (.cells c el true) _ k hw ⟨cs ++ Builtin.zeroCells zs (k - n), ?_, ?_⟩
  · rw [Env.ext_phi, hw]
    show (w.heap.push _)[w.heap.size]? = _
    exact Array.getElem?_push_size
  · rw [if_pos rfl]
    refine ⟨cs.toList, (Builtin.zeroCells zs (k - n)).toList, by simp, hc.mono (by omega) (e.ext_agree _ _ _), sz, hs, ?_⟩
    rw [Env.ext_kap, Array.size_append]
    have h1 : cs.size = n * sz := by rw [← Array.length_toList, hc.rl.length, hl]
    have h2 : (Builtin.zeroCells zs (k - n)).size = (k - n) * sz := by simp [Builtin.zeroCells, hz]
    rw [h1, h2, ← Nat.add_mul]
    congr 1
    omega

theorem RV.row {n : Nat} {e : Env} {b l : Nat} {a : Addr} {c : Nat} (hb : b < n) (ha : a = ⟨e.phi b, 0, none⟩) (hc : c = e.kap b) : RV n e (.slice (some ⟨b, 0, none⟩) l OPEN) (.slice (some a) l c) := by
  refine ⟨by simp only [Ev.under]; intro x hx; cases hx; exact hb, ?_⟩
  subst ha; subst hc
  simp [conc, cA, cCap]

theorem evAppend_ok {h h' : Hp} {e : Env} {w : World} (r : Rel P h e w) {t t' ty : Nat} {s s' x x' v : Value} {ts : List TypeId} {xs : List Value} (hs : RV h.next e s s') (hx : RV h.next e x x')
    (ho : evAppend P h t t' s x = some (v, h')) :
    ∃ e' w' v', (Builtin.append_ (t :: t' :: ts).toArray ty (s' :: x' :: xs).toArray).run P w = .ok v' w' ∧ Rel P h' e' w' ∧ Stp h e w h' e' w' ∧ RV h'.next e' v v' := by
  unfold evAppend at ho
  split at ho
  case h_2 => cases ho
  rename_i el base sl cap hu
  obtain ⟨hlt, rfl⟩ := hs.slice_inv
  split at ho
  case h_2 => cases ho
  rename_i sz by_ hsz hby
  split at ho
  · cases ho
  rename_i n new hnew
  obtain ⟨hlen, new', hnc, happ⟩ := newOf_ok r hx hsz hby hnew
  have hlen' : new'.toList.length = n * sz := by rw [hnc.rl.length, hlen]
  cases hop : Nat.ble OPEN cap with
  | false =>
    rw [hop, cond_false] at ho
    have hop : ¬ OPEN ≤ cap := fun hc => by rw [← Nat.ble_eq, hop] at hc; cases hc
    have hcap : cCap e base cap = cap := by cases base <;> simp [cCap, hop]
    rw [hcap]
    cases hfit : Nat.ble (Nat.add sl n) cap with
    | true =>
      rw [hfit, cond_true] at ho
      have hfit : sl + n ≤ cap := Nat.le_of_ble_eq_true hfit
      have hrv : ∀ {h'' : Hp} , h''.next = h.next → RV h''.next e (.slice base (Nat.add sl n) cap) (.slice (base.map (cA e)) (sl + n) cap) := fun hn => by
        rw [hn]
        exact ⟨by simpa only [Ev.under] using hlt, by simp only [conc, hcap]; rfl⟩
      cases h0 : Nat.beq n 0 with
      | true =>
        rw [h0, cond_true] at ho
        cases ho
        have h0 := Nat.eq_of_beq_eq_true h0
        subst h0
        have hnil : new'.toList = [] := List.length_eq_zero_iff.1 (by rw [hlen']; simp)
        exact ⟨e, w, _, append_inplace hu hsz happ hfit (fun a ha => by rw [hnil]; rfl) (fun _ => rfl), r, Stp.refl _ _ _, hrv rfl⟩
      | false =>
        rw [h0, cond_false] at ho
        split at ho
        · cases ho
        rename_i a
        cases hsp : a.spot.isNone with
        | false => rw [hsp] at ho; cases ho
        | true =>
        rw [hsp, cond_true] at ho
        split at ho
        · cases ho
        rename_i hp hwr
        cases ho
        obtain ⟨w', h1, h2, h3, h4⟩ := wr_ok r hwr hnc
        refine ⟨e, w', _, append_inplace hu hsz happ hfit (fun a' ha => ?_) (fun hc => by cases hc), h2, h3, hrv h4⟩
        cases ha
        rw [← h1, cA_add _ _ _ (isNone_spot hsp)]; rfl
    | false =>
      rw [hfit, cond_false] at ho
      have hfit : ¬ sl + n ≤ cap := fun hc => by rw [← Nat.ble_eq] at hc; rw [show Nat.ble (sl + n) cap = false from hfit] at hc; cases hc
      split at ho
      case h_2 => cases ho
      rename_i z old hz hold
      cases hk : (Nat.beq z.length sz && roomOk by_ (Nat.add sl n)) with
      | false => rw [hk] at ho; cases ho
      | true =>
        rw [hk] at ho
        cases ho
        rw [Bool.and_eq_true] at hk
        have hzl := Nat.eq_of_beq_eq_true hk.1
        obtain ⟨zv, hz1, hz2, hz3⟩ := zeroL_all hz
        obtain ⟨hol, old', ho1, ho2⟩ := cellsAt_ok (c := cap) (k := sl) (sz := sz) r rfl hold
        obtain ⟨k, hk1, hrun⟩ := append_grow (t := t) (ty := ty) (ts := ts) (xs := xs) hu hsz hby happ hfit hk.2 (fun d => by rw [firstCells_cap (n' := cap) (c' := cap)]; exact ho2 d) hz1
        have hzs : zv.cells.size = sz := by rw [← Array.length_toList, hz2, hzl]
        obtain ⟨h1, h2⟩ := r.open (w' := { World.alloc' w (.cells (old' ++ new' ++ Builtin.zeroCells zv.cells (k - (sl + n))) el (0, 0)) with drawn := w.drawn + 1 })
          (c := old ++ new) (cs := old' ++ new') (n := sl + n) (k := k) hsz (by rw [Array.toList_append]; exact ho1.append hnc) (by rw [List.length_append, hol, hlen, Nat.add_mul]) hk1 hzs rfl
        exact ⟨_, _, _, hrun, h1, h2, RV.row (by simp) (by rw [Env.ext_phi]) (by rw [Env.ext_kap])⟩
  | true =>
    rw [hop, cond_true] at ho
    have hop := Nat.le_of_ble_eq_true hop
    unfold evAppOpen at ho
    split at ho
    · cases ho
    rename_i a
    split at ho
    case h_2 => cases ho
    rename_i c el' hsp hg
    cases hk : (Nat.beq el' el && Nat.blt 0 sz && Nat.beq a.off (Nat.mul (Nat.sub cap OPEN) sz)) with
    | false => rw [hk] at ho; cases ho
    | true =>
      rw [hk, cond_true] at ho
      simp only [Bool.and_eq_true] at hk
      obtain ⟨⟨g1, g2⟩, g3⟩ := hk
      have g1 := Nat.eq_of_beq_eq_true g1
      rw [Nat.blt_eq] at g2
      have g3 : a.off = (cap - OPEN) * sz := Nat.eq_of_beq_eq_true g3
      subst g1
      obtain ⟨hnx, hl'⟩ := r.lies _ _ hg
      obtain ⟨cs, q, q', k1, k2, k3, k4⟩ := hl'.cells_inv
      rw [if_pos rfl] at k4
      obtain ⟨s, ks, kk⟩ := k4
      rw [hsz] at ks
      cases ks
      have hcs : cs.size = q.length + q'.length := by rw [← Array.length_toList, k2, List.length_append]
      have hql : q.length = c.length := k3.rl.length
      have hcap : cCap e (some a) cap = e.kap a.block - (cap - OPEN) := by simp only [cCap, if_pos hop]
      cases hfit : Nat.ble (Nat.add a.off (Nat.mul (Nat.add sl n) sz)) c.length with
      | true =>
        rw [hfit, cond_true] at ho
        have hfit : a.off + (sl + n) * sz ≤ c.length := Nat.le_of_ble_eq_true hfit
        have hbound : (cap - OPEN) + (sl + n) ≤ e.kap a.block := by
          have : ((cap - OPEN) + (sl + n)) * sz ≤ e.kap a.block * sz := by rw [kk, Nat.add_mul, ← g3]; omega
          exact Nat.le_of_mul_le_mul_right this g2
        split at ho
        case h_2 => cases ho
        rename_i hp hwr
        cases ho
        obtain ⟨w', h1, h2, h3, h4⟩ := wr_ok r hwr hnc
        refine ⟨e, w', _, append_inplace hu hsz happ (by rw [hcap]; omega) (fun a' ha => ?_) (fun hc => by cases hc), h2, h3, ?_⟩
        · cases ha
          rw [← h1, cA_add _ _ _ hsp]; rfl
        · rw [h4]
          exact ⟨by simpa only [Ev.under] using hlt, by simp only [conc]; rfl⟩
      | false =>
        rw [hfit, cond_false] at ho
        split at ho
        case h_2 => cases ho
        rename_i z hz
        cases hk : (not (Nat.blt a.block h.low) && Nat.beq (Nat.mul sl sz) c.length && Nat.beq cap OPEN && Nat.beq z.length sz && roomOk by_ (Nat.add sl n)) with
        | false => rw [hk] at ho; cases ho
        | true =>
          rw [hk] at ho
          cases ho
          simp only [Bool.and_eq_true] at hk
          obtain ⟨⟨⟨⟨f1, f2⟩, f3⟩, f4⟩, f5⟩ := hk
          have f1 : h.low ≤ a.block := by
            rcases Nat.lt_or_ge a.block h.low with hc | hc
            · rw [← Nat.blt_eq] at hc
              rw [hc] at f1; cases f1
            · exact hc
          have f2 : sl * sz = c.length := Nat.eq_of_beq_eq_true f2
          have f3 := Nat.eq_of_beq_eq_true f3
          subst f3
          have f4 := Nat.eq_of_beq_eq_true f4
          have hoff : a.off = 0 := by rw [g3]; simp
          have hcap : cCap e (some a) OPEN = e.kap a.block := by rw [hcap]; simp
          have hsp' : a.spot = none := hsp
          rw [hcap]
          by_cases hroom : sl + n ≤ e.kap a.block
          · -- there is room
            have hsz2 : (sl + n) * sz ≤ cs.size := by rw [← kk]; exact Nat.mul_le_mul_right _ hroom
            have hadd : (cA e a).add (sl * sz) = ⟨e.phi a.block, sl * sz, none⟩ := by
              rw [cA_none hsp']
              unfold Addr.add
              split
              · rename_i h0; rw [h0, hoff]
              · simp [hoff]
            obtain ⟨w', cs', h1, h2, h3⟩ := storeCells_run (P := P) (a := (cA e a).add (sl * sz)) (el := el') (by rw [hadd]) new'.toList 0 w cs (by rw [hadd]; exact k1)
              (by rw [hadd, hlen']; rw [Nat.add_mul] at hsz2; exact hsz2)
              (fun v hv => by rw [hnc.rl.2] at hv; obtain ⟨u, hu, rfl⟩ := List.mem_map.1 hv; rw [one_conc]; exact hnc.one u hu)
            rw [hadd] at h2 h3
            simp only [Nat.add_zero] at h3
            have hcsl : cs'.toList = (q ++ new'.toList) ++ cs.toList.drop (sl * sz + new'.toList.length) := by
              rw [h3, f2, ← hql, k2, List.take_left', List.append_assoc]; rfl
            have hcsz : cs'.size = cs.size := by
              rw [← Array.length_toList, h3, List.length_append, List.length_append, List.length_take, List.length_drop, Array.length_toList]
              rw [hlen']
              rw [Nat.add_mul] at hsz2
              omega
            obtain ⟨h4, h5⟩ := r.move (x := .cells (c ++ new) el' true) (k := e.kap a.block) hg f1 h2 ⟨cs', by rw [Env.ext_phi]; exact h2.at_, by
              rw [if_pos rfl]
              refine ⟨q ++ new'.toList, _, hcsl, (k3.append hnc).mono (by omega) (e.ext_agree _ _ _), sz, hsz, ?_⟩
              rw [Env.ext_kap, hcsz, kk]⟩
            refine ⟨_, w', _, append_inplace (base := some (cA e a)) hu hsz happ hroom (fun a' ha => ?_) (fun hc => by cases hc), h4, h5, ?_⟩
            · cases ha
              exact h1
            · refine RV.row (by simp) ?_ (by rw [Env.ext_kap])
              rw [Env.ext_phi]
              simp [cA, hoff, hsp']
          · -- there is none
            obtain ⟨zv, hz1, hz2, hz3⟩ := zeroL_all hz
            have hzs : zv.cells.size = sz := by rw [← Array.length_toList, hz2, f4]
            have hrd : rd h a (sl * sz) = some c := by
              unfold rd
              rw [hsp, hg]
              have : Nat.ble (Nat.add a.off (sl * sz)) c.length = true := by
                rw [Nat.ble_eq, hoff, f2]; simp
              show (bif Nat.ble (Nat.add a.off (sl * sz)) c.length then some ((c.drop a.off).take (sl * sz)) else none) = some c
              rw [this, cond_true, hoff, f2]
              simp
            have hcells : cellsAt h (some a) (sl * sz) = some c := by
              unfold cellsAt
              cases h0 : Nat.beq (sl * sz) 0 with
              | true =>
                have h0 := Nat.eq_of_beq_eq_true h0
                rw [h0] at f2
                have := List.length_eq_zero_iff.1 f2.symm
                subst this; rfl
              | false => exact hrd
            obtain ⟨hol, old', ho1, ho2⟩ := cellsAt_ok (c := OPEN) (k := sl) (sz := sz) r rfl hcells
            obtain ⟨k, hk1, hrun⟩ := append_grow (t := t) (ty := ty) (ts := ts) (xs := xs) (base := some (cA e a)) hu hsz hby happ hroom f5 (fun d => by rw [firstCells_cap (n' := OPEN) (c' := OPEN)]; exact ho2 d) hz1
            obtain ⟨d1, d2⟩ := r.drop f1
            obtain ⟨h1, h2⟩ := d1.open (w' := { World.alloc' w (.cells (old' ++ new' ++ Builtin.zeroCells zv.cells (k - (sl + n))) el' (0, 0)) with drawn := w.drawn + 1 })
              (c := c ++ new) (cs := old' ++ new') (n := sl + n) (k := k) hsz (by rw [Array.toList_append]; exact ho1.append hnc) (by rw [List.length_append, ← f2, hlen, Nat.add_mul]) hk1 hzs rfl
            exact ⟨_, _, _, hrun, h1, d2.trans h2, RV.row (by simp) (by rw [← Hp.next_put h a.block none, Env.ext_phi]) (by rw [← Hp.next_put h a.block none, Env.ext_kap])⟩

end Go.Ev
namespace Go.Ev
variable {P : Program}

theorem eqBL_eq : ∀ a b : List UInt8, eqBL a b = (a == b)
  | [], [] => rfl
  | [], _ :: _ => rfl
  | _ :: _, [] => rfl
  | x :: xs, y :: ys => by
    have h : eqBL (x :: xs) (y :: ys) = Bool.rec false (eqBL xs ys) (Nat.beq x.toNat y.toNat) := rfl
    rw [h, List.cons_beq_cons, eqBL_eq xs ys]
    by_cases hxy : x = y
    · subst hxy
      have : Nat.beq x.toNat x.toNat = true := by simp
      rw [this]
      simp
    · have : Nat.beq x.toNat y.toNat = false := by
        cases hb : Nat.beq x.toNat y.toNat with
        | false => rfl
        | true => exact absurd (UInt8.toNat_inj.1 (Nat.eq_of_beq_eq_true hb)) hxy
      rw [this]
      have hne : (x == y) = false := by simpa using hxy
      rw [hne]; rfl
theorem data_toList (a : ByteArray) : a.data.toList = a.toList := (ByteArray.toList_eq (bs := a)).symm

theorem eqCell_ok {t : TypeId} {x y x' y' : Value} {b : Bool} {n : Nat} {e : Env} (hx : RV n e x x') (hy : RV n e y y') (h : eqCell P t x y = some b) (d : Nat) (w : World) :
    (Op.equalIn (d + 1) t x' y').run P w = .ok b w := by
  have hx := hx.eq
  have hy := hy.eq
  subst hx hy
  unfold eqCell at h
  split at h
  case h_1 hu => cases h; simp [conc, Op.equalIn, Sem.run_bind, und hu, Sem.run_pure]
  case h_2 k a k' b hu =>
    cases hk : eqK k k' with
    | false => rw [hk] at h; cases h
    | true =>
      rw [hk] at h
      cases h
      have := eqK_eq hk
      subst this
      simp [conc, Op.equalIn, Sem.run_bind, und hu, Sem.run_pure]
  case h_3 a b hu =>
    cases h
    rw [eqBL_eq, data_toList, data_toList]
    simp only [conc]
    exact run_equalIn_string w d t a b hu
  case h_15 => cases h
  all_goals
    rename_i hu
    cases h
    simp [conc, Op.equalIn, Sem.run_bind, und hu, Sem.run_pure]

theorem part_one {t : TypeId} {xs : Array Value} {off : Nat} {v : Value} (ha : isAggT P t = some false) (hv : xs[off]? = some v) (w : World) : (part t xs off).run P w = .ok v w := by
  simp [part, Sem.run_bind, isAggT_run ha, Sem.run_pure, hv]

theorem eqFields_ok {xs ys : List Value} {xs' ys' : Array Value} {n : Nat} {e : Env} (hx : RC n e xs xs'.toList) (hy : RC n e ys ys'.toList) (d : Nat) (w : World) : ∀ {fs : List Field} {b : Bool},
    eqFields P xs ys fs = some b → (Op.eqFields (d + 1) xs' ys' fs).run P w = .ok b w
  | [], b, h => by cases h; rfl
  | f :: fs, b, h => by
    unfold eqFields at h
    cases hn : (f.name == "_") with
    | true => rw [hn] at h; cases h
    | false =>
      rw [hn, cond_false] at h
      have hn : f.name ≠ "_" := by simpa using hn
      split at h
      · rename_i x y ha hxo hyo
        obtain ⟨x', h1, h2⟩ := hx.rl.get hxo
        obtain ⟨y', h3, h4⟩ := hy.rl.get hyo
        rw [Array.getElem?_toList] at h1 h3
        simp only [Op.eqFields, if_pos hn, Sem.run_bind, part_one ha h1, part_one ha h3, Result.andThen_ok]
        split at h
        · rename_i hc
          rw [eqCell_ok h2 h4 hc]
          simpa using eqFields_ok hx hy d w h
        · rename_i hc
          cases h
          rw [eqCell_ok h2 h4 hc]
          rfl
        · cases h
      · cases h

theorem evEq_ok {t : TypeId} {x y x' y' : Value} {b : Bool} {n : Nat} {e : Env} (hx : RV n e x x') (hy : RV n e y y') (h : evEq P t x y = some b) (op : BinOp) (ox oy : Operand) (w : World) :
    (Op.equal t x' y').run P w = .ok b w ∧ (eqGuard op t ox oy x' y').run P w = .ok () w := by
  unfold evEq at h
  split at h
  · rename_i xs ys
    obtain ⟨cx, rfl, hcx⟩ := hx.agg_inv
    obtain ⟨cy, rfl, hcy⟩ := hy.agg_inv
    split at h
    · rename_i fs hu
      cases hk : (P.stoodInHeld t || P.eqGuardType P.depth t) with
      | true => rw [hk] at h; cases h
      | false =>
        rw [hk, cond_false] at h
        rw [Bool.or_eq_false_iff] at hk
        have hf : P.fieldsOf t = fs := by unfold Program.fieldsOf; rw [hu]
        refine ⟨?_, run_eqGuard_agg w op t ox oy cx cy hk.2⟩
        unfold Op.equal
        rw [show Op.maxDepth = 9998 + 1 + 1 from rfl, run_equalIn_agg w (9998 + 1) t cx cy (by rw [hf]; exact hu) hk.1, hf]
        exact eqFields_ok hcx hcy 9998 w h
    · cases h
  · rename_i hna
    refine ⟨?_, ?_⟩
    · unfold Op.equal
      rw [show Op.maxDepth = 9999 + 1 from rfl]
      exact eqCell_ok hx hy h 9999 w
    · have h1 : ¬ (x' = .nilIface ∧ y' = .nilIface) := by
        rintro ⟨rfl, rfl⟩
        have hx := hx.eq
        have hy := hy.eq
        unfold eqCell at h
        split at h <;> first | (simp [conc] at hx; done) | (simp [conc] at hy; done) | cases h
      have h2 : ∀ a b, ¬ (x' = .agg a ∧ y' = .agg b) := by
        rintro a b ⟨rfl, rfl⟩
        have hx := hx.eq
        have hy := hy.eq
        cases x <;> simp [conc] at hx
        cases y <;> simp [conc] at hy
        exact hna _ _ rfl rfl
      unfold eqGuard
      cases op <;> simp only [Bool.not_true, Bool.not_false, if_true, Bool.false_eq_true, if_false] <;> first | rfl | skip
      all_goals
        split
        · exact absurd ⟨rfl, rfl⟩ h1
        · exact absurd ⟨rfl, rfl⟩ (h2 _ _)
        · rfl

theorem evStr_ok {op : BinOp} {a b : ByteArray} {v : Value} (h : evStr op a b = some v) (w : World) : (Op.stringOp op a b).run P w = .ok v w := by
  unfold evStr at h
  simp only [eqBL_eq, data_toList] at h
  split at h
  · cases hk : Nat.ble (Nat.add a.size b.size) 1073741824 with
    | false => rw [hk] at h; cases h
    | true =>
      rw [hk] at h
      cases h
      have h1 : a.size + b.size ≤ 1073741824 := Nat.le_of_ble_eq_true hk
      have h2 : ¬ (((a.size + b.size : Nat) : Int) > IntKind.i64.max) := by
        simp [IntKind.max, IntKind.signed, IntKind.bits]; omega
      have h3 : a ++ b = ⟨⟨a.toList ++ b.toList⟩⟩ := by
        apply ByteArray.ext
        rw [ByteArray.data_append]
        apply Array.ext'
        simp [ByteArray.toList_eq]
      simp only [Op.stringOp, if_neg h2, Sem.run_pure, h3]
  all_goals first
    | (cases h; simp [Op.stringOp, Sem.run_pure]; done)
    | cases h

end Go.Ev
namespace Go.Ev
variable {P : Program}

/-- a block that is no row of cells is turned -/
theorem Rel.turn {h : Hp} {e : Env} {w : World} (r : Rel P h e w) {b : Nat} {y x : Blk} {o : Obj} (hb : h.get b = some y) (hlow : Nat.blt b h.low = false)
    (hx : ∀ w' : World, w'.heap[e.phi b]? = some o → Lies P h.next e b x w') :
    Rel P (h.put b (some x)) e { w with heap := w.heap.setIfInBounds (e.phi b) o } ∧ Stp h e w (h.put b (some x)) e { w with heap := w.heap.setIfInBounds (e.phi b) o } := by
  have hlow' : ¬ b < h.low := by intro hlt; rw [← Nat.blt_eq, hlow] at hlt; cases hlt
  have hat : (w.heap.setIfInBounds (e.phi b) o)[e.phi b]? = some o := by simp [r.lt hb]
  have hother : ∀ k, k ≠ e.phi b → (w.heap.setIfInBounds (e.phi b) o)[k]? = w.heap[k]? := fun k hk => Array.getElem?_setIfInBounds_ne (Ne.symm hk)
  refine ⟨⟨fun c z hc => ?_, fun c d z z' hc hd he => ?_, r.low, r.glob⟩, ⟨Nat.le_refl _, Agree.refl _ _, fun c z hc => ?_, fun k hk hn => hother k (fun he => hn b y hb he.symm), by simp, rfl, rfl, rfl, rfl, fun c hc => ?_⟩⟩
  · rw [Hp.get_put] at hc
    split at hc
    · rename_i hbc
      subst hbc
      cases hc
      exact ⟨(r.lies _ _ hb).1, hx _ hat⟩
    · rename_i hbc
      obtain ⟨h1, h2⟩ := r.lies c z hc
      exact ⟨h1, h2.mono h1 (Nat.le_refl _) (Agree.refl _ _) (hother _ fun he => hbc (r.inj b c y z hb hc he.symm))⟩
  · rw [Hp.get_put] at hc hd
    split at hc <;> split at hd
    · omega
    · rename_i h1 _; subst h1; exact r.inj _ _ _ _ hb hd he
    · rename_i _ h1; subst h1; exact r.inj _ _ _ _ hc hb he
    · exact r.inj _ _ _ _ hc hd he
  · rw [Hp.get_put] at hc
    split at hc
    · rename_i hbc; subst hbc; exact .inl ⟨_, y, hb, rfl⟩
    · exact .inl ⟨c, z, hc, rfl⟩
  · rw [Hp.get_put, if_neg (by omega)]

theorem run_getMap {w : World} {r : Nat} {es : Array MapEntry} {clock : Nat} (hb : w.heap[r]? = some (.map es clock)) : (getObj r).run P w = .ok (.map es clock) w := by simp [getObj, Sem.run, hb]
theorem run_setMap {w : World} {r : Nat} {es : Array MapEntry} {clock : Nat} (o : Obj) (hb : w.heap[r]? = some (.map es clock)) : (setObj r o).run P w = .ok () { w with heap := w.heap.setIfInBounds r o } := by simp [setObj, Sem.run, hb]
theorem run_getIter {w : World} {r : Nat} {m : Option Nat} {s : Nat} {seen : Array Nat} {c : Nat} (hb : w.heap[r]? = some (.mapIter m s seen c)) : (getObj r).run P w = .ok (.mapIter m s seen c) w := by simp [getObj, Sem.run, hb]
theorem run_setIter {w : World} {r : Nat} {m : Option Nat} {s : Nat} {seen : Array Nat} {c : Nat} (o : Obj) (hb : w.heap[r]? = some (.mapIter m s seen c)) : (setObj r o).run P w = .ok () { w with heap := w.heap.setIfInBounds r o } := by simp [setObj, Sem.run, hb]

abbrev Ent := Value × Value × Nat
def entOf (e : Env) (x : Ent) : MapEntry := ⟨conc e x.1, conc e x.2.1, x.2.2⟩

theorem findAsking_ok {n : Nat} {e : Env} {kt : TypeId} {k k' : Value} (hk : RV n e k k') (w : World) : ∀ (es : List Ent) (i : Nat) {r : Option (Nat × Value × Nat)}, (∀ x ∈ es, under n x.1) → findE P kt k es i = some r →
    (Instr.findAsking kt k' (es.map (entOf e)) i).run P w = .ok (r.map fun x => (x.1, conc e x.2.1)) w
  | [], i, r, _, h => by cases h; rfl
  | x :: es, i, r, hu, h => by
    unfold findE at h
    simp only [List.map_cons, Instr.findAsking]
    split at h
    · rename_i hq
      cases hs : sameKey x.1 k with
      | false => rw [hs] at h; cases h
      | true =>
      rw [hs] at h
      cases h
      have := (evEq_ok hk ⟨hu x (by simp), rfl⟩ hq .eql (.tmp 0) (.tmp 0) w).1
      simp only [entOf, Sem.run_bind, this, Result.andThen_ok, if_true, Sem.run_pure, Option.map_some]
    · rename_i hq
      have := (evEq_ok hk ⟨hu x (by simp), rfl⟩ hq .eql (.tmp 0) (.tmp 0) w).1
      have ih := findAsking_ok hk w es (Nat.add i 1) (fun y hy => hu y (by simp [hy])) h
      simp only [entOf, Sem.run_bind, this, Result.andThen_ok, Bool.false_eq_true, if_false]
      exact ih
    · cases h

theorem sameNow_eq {n : Nat} {e : Env} {kt : TypeId} {d : TypeDesc} {x y x' y' : Value} {b b' : Bool} (hd : P.underlying kt = some d) (hx : RV n e x x') (hy : RV n e y y') (h : evEq P kt x y = some b) (h' : Instr.sameNow d x' y' = some b') (w : World) : b' = b := by
  have h1 := (evEq_ok hx hy h .eql (.tmp 0) (.tmp 0) w).1
  have h2 : (Op.equalIn (9999 + 1) kt x' y').run P w = .ok b' w := by
    unfold Instr.sameNow at h'
    split at h'
    · split at h'
      · rename_i hk
        cases h'
        subst hk
        exact run_equalIn_int w _ _ _ _ _ _ hd
      · cases h'
    · cases h'
      rw [beq_toListBytes]
      exact run_equalIn_string w _ _ _ _ hd
    · cases h'
      exact run_equalIn_bool w _ _ _ _ hd
    · cases h'
  have h1 : (Op.equalIn (9999 + 1) kt x' y').run P w = .ok b w := h1
  rw [h1] at h2
  cases h2
  rfl

theorem findNow_ok {n : Nat} {e : Env} {kt : TypeId} {d : TypeDesc} (hd : P.underlying kt = some d) {k k' : Value} (hk : RV n e k k') (w : World) : ∀ (es : List Ent) (i : Nat) {r : Option (Nat × Value × Nat)} {r' : Option (Nat × Value)}, (∀ x ∈ es, under n x.1) → findE P kt k es i = some r →
    Instr.findNow d k' (es.map (entOf e)) i = some r' → r' = r.map fun x => (x.1, conc e x.2.1)
  | [], i, r, r', _, h, h' => by cases h; cases h'; rfl
  | x :: es, i, r, r', hu, h, h' => by
    unfold findE at h
    simp only [List.map_cons, Instr.findNow] at h'
    have key : ∀ {b}, evEq P kt k x.1 = some b → ∀ {b'}, Instr.sameNow d k' (entOf e x).key = some b' → b' = b := fun hq _ hs => sameNow_eq hd hk ⟨hu x (by simp), rfl⟩ hq hs w
    split at h
    · rename_i hq
      cases hs : sameKey x.1 k with
      | false => rw [hs] at h; cases h
      | true =>
      rw [hs] at h
      cases h
      split at h'
      · cases h'; rfl
      · rename_i hs; have := key hq hs; cases this
      · cases h'
    · rename_i hq
      split at h'
      · rename_i hs; have := key hq hs; cases this
      · exact findNow_ok hd hk w es (Nat.add i 1) (fun y hy => hu y (by simp [hy])) h h'
      · cases h'
    · cases h

theorem findKey_ok {n : Nat} {e : Env} {kt : TypeId} {d : TypeDesc} (hd : P.underlying kt = some d) {k k' : Value} (hk : RV n e k k') (w : World) {es : List Ent} {r : Option (Nat × Value × Nat)} (hu : ∀ x ∈ es, under n x.1) (h : findE P kt k es 0 = some r) :
    (Instr.findKey kt k' (es.map (entOf e))).run P w = .ok (r.map fun x => (x.1, conc e x.2.1)) w := by
  simp only [Instr.findKey, Sem.run_bind, und hd, Result.andThen_ok]
  split
  · rename_i r' hr
    rw [findNow_ok hd hk w es 0 hu h hr]
    rfl
  · exact findAsking_ok hk w es 0 hu h

theorem sameCell_eq {x y : Value} (h : sameCell x y = true) : x = y ∧ ∀ n, Instr.sameBits (n + 1) x y = true := by
  unfold sameCell at h
  split at h
  · have := eq_of_beq h; subst this; exact ⟨rfl, fun n => by simp [Instr.sameBits]⟩
  · rw [Bool.and_eq_true] at h
    have h1 := eqK_eq h.1
    have h2 := eq_of_beq h.2
    subst h1 h2
    exact ⟨rfl, fun n => by simp [Instr.sameBits]⟩
  · rename_i a b
    rw [eqBL_eq] at h
    have h1 := eq_of_beq h
    have h2 : a = b := by
      cases a; cases b
      simp only [ByteArray.mk.injEq]
      exact Array.toList_inj.1 h1
    subst h2
    exact ⟨rfl, fun n => by simp [Instr.sameBits, beq_toListBytes]⟩
  · cases h
theorem sameCells_eq : ∀ {xs ys : List Value}, sameCells xs ys = true → xs = ys ∧ ∀ n, ((xs.zip ys).all fun (x, y) => Instr.sameBits (n + 1) x y) = true
  | [], [], _ => ⟨rfl, fun n => rfl⟩
  | [], _ :: _, h => by cases h
  | _ :: _, [], h => by cases h
  | x :: xs, y :: ys, h => by
    simp only [sameCells, Bool.and_eq_true] at h
    obtain ⟨h1, h2⟩ := sameCell_eq h.1
    obtain ⟨h3, h4⟩ := sameCells_eq h.2
    exact ⟨by rw [h1, h3], fun n => by simp only [List.zip_cons_cons, List.all_cons, h2 n, h4 n, Bool.and_self]⟩
theorem sameKey_eq {x y : Value} (h : sameKey x y = true) : x = y ∧ Instr.sameBits 10000 x y = true := by
  unfold sameKey at h
  split at h
  · rename_i a b
    obtain ⟨h1, h2⟩ := sameCells_eq h
    have h3 : a = b := Array.toList_inj.1 h1
    subst h3
    refine ⟨rfl, ?_⟩
    show Instr.sameBits (9999 + 1) (.agg a) (.agg a) = true
    unfold Instr.sameBits
    rw [Bool.and_eq_true]
    exact ⟨by simp, h2 9998⟩
  · exact ⟨(sameCell_eq h).1, (sameCell_eq h).2 9999⟩

theorem findE_at {kt : TypeId} {k : Value} : ∀ (es : List Ent) (i : Nat) {j : Nat} {x : Value × Nat}, findE P kt k es i = some (some (j, x)) → i ≤ j ∧ es[j - i]? = some (k, x) ∧ Instr.sameBits 10000 k k = true
  | [], i, j, x, h => by cases h
  | y :: es, i, j, x, h => by
    unfold findE at h
    split at h
    · rename_i hq
      cases hs : sameKey y.1 k with
      | false => rw [hs] at h; cases h
      | true =>
        rw [hs] at h
        cases h
        obtain ⟨h1, h2⟩ := sameKey_eq hs
        rw [h1] at h2
        refine ⟨Nat.le_refl _, ?_, h2⟩
        rw [← h1]
        simp
    · obtain ⟨h1, h2, h3⟩ := findE_at es (Nat.add i 1) h
      have h1 : i + 1 ≤ j := h1
      refine ⟨by omega, ?_, h3⟩
      have : j - i = (j - (i + 1)) + 1 := by omega
      rw [this, List.getElem?_cons_succ]
      exact h2
    · cases h

/-- keys hold no blocks -/
theorem keyCell_plain {t : TypeId} {v : Value} (h : keyCell P t v = true) : plainCell v = true := by
  unfold keyCell at h
  split at h <;> first | rfl | cases h
theorem keyOk_plain {t : TypeId} {v : Value} (h : keyOk P t v = true) : plain v = true := by
  unfold keyOk at h
  split at h
  · split at h
    · rename_i cs _ fs _
      rw [Bool.and_eq_true] at h
      simp only [plain]
      rw [← Array.all_toList]
      exact h.1
    · cases h
  · rename_i hn
    have := keyCell_plain h
    cases v <;> first | exact this | exact absurd rfl (hn _)
theorem keyOk_conc {t : TypeId} {v : Value} (h : keyOk P t v = true) (e : Env) : conc e v = v := (plain_ok (keyOk_plain h) 0 e).eq.symm

theorem checkKey_cell {t : TypeId} {v : Value} (h : keyCell P t v = true) (b : Bool) (n : Nat) (w : World) : (Instr.checkKey b (n + 1) t v).run P w = .ok () w := by
  unfold keyCell at h
  split at h
  · rename_i hu; simp [Instr.checkKey, Sem.run_bind, und hu, Sem.run_pure]
  · rename_i hu; simp [Instr.checkKey, Sem.run_bind, und hu, Sem.run_pure]
  · rename_i hu; simp [Instr.checkKey, Sem.run_bind, und hu, Sem.run_pure]
  · cases h

theorem checkKey_fields {n : Nat} {cs : Array Value} (b : Bool) (w : World) : ∀ {fs : List Field}, keyFields P cs.toList fs = true →
    (forIn (m := Sem) fs PUnit.unit (fun f _ => do
      if f.name ≠ "_" then Instr.checkKey b (n + 1) f.type (← part f.type cs f.offset)
      pure (ForInStep.yield PUnit.unit))).run P w = .ok PUnit.unit w
  | [], _ => rfl
  | f :: fs, h => by
    unfold keyFields at h
    rw [Bool.and_eq_true, Bool.and_eq_true] at h
    obtain ⟨⟨h1, h2⟩, h3⟩ := h
    have hn : f.name ≠ "_" := by intro he; rw [he] at h1; simp at h1
    split at h2
    · rename_i x ha hx
      have hp := part_one (P := P) (xs := cs) (off := f.offset) ha (by rw [← Array.getElem?_toList]; exact hx) w
      rw [List.forIn_cons]
      simp only [Sem.run_bind, hn, ne_eq, not_false_eq_true, if_true, hp, Result.andThen_ok, checkKey_cell h2 b n w, Sem.run_pure]
      exact checkKey_fields b w h3
    · cases h2
theorem checkKey_ok {t : TypeId} {v : Value} (h : keyOk P t v = true) (b : Bool) (w : World) : (Instr.checkKey b 10000 t v).run P w = .ok () w := by
  unfold keyOk at h
  split at h
  · split at h
    · rename_i cs _ fs hu
      rw [Bool.and_eq_true] at h
      show (Instr.checkKey b (9998 + 1 + 1) t (.agg cs)).run P w = _
      unfold Instr.checkKey
      simp only [Sem.run_bind, und hu, Result.andThen_ok]
      rw [← Array.forIn_toList]
      simp only [Sem.run_bind, checkKey_fields b w h.2, Result.andThen_ok, Sem.run_pure]
    · cases h
  · exact checkKey_cell h b 9999 w

end Go.Ev
namespace Go.Ev
variable {P : Program}

theorem zeroV_run {t : TypeId} {z : Value} (h : zeroV P t = some z) (w : World) : (zeroValue t).run P w = .ok z w ∧ plain z = true := by
  unfold zeroV at h
  cases hi : P.info? t with
  | none => rw [hi] at h; cases h
  | some i =>
    rw [hi] at h
    cases hz : i.zero with
    | none => simp only [hz] at h; cases h
    | some v =>
      simp only [hz] at h
      cases hp : plain v with
      | false => rw [hp] at h; cases h
      | true =>
        rw [hp] at h
        cases h
        exact ⟨by simp [zeroValue, typeInfo, program, Sem.run_bind, Sem.run, hi, hz], hp⟩

theorem RV.map_inv {n : Nat} {e : Env} {r : Option Nat} {v' : Value} (h : RV n e (.map r) v') : v' = .map (r.map e.phi) := by have := h.eq; simpa [conc] using this
theorem RV.pair {n : Nat} {e : Env} {x x' y y' : Value} (hx : RV n e x x') (hy : RV n e y y') : RV n e (.tuple #[x, y]) (.tuple #[x', y']) :=
  ⟨by simp only [Ev.under, underA, underL]; exact ⟨hx.under, hy.under, trivial⟩, by rw [hx.eq, hy.eq]; simp [conc, concA, concL]⟩
theorem REs.ent {n : Nat} {e : Env} {es : List Ent} {es' : List MapEntry} (h : REs n e es es') : es' = es.map (entOf e) := h.eq
theorem REs.keys {n : Nat} {e : Env} {es : List Ent} {es' : List MapEntry} (h : REs n e es es') : ∀ x ∈ es, Ev.under n x.1 := fun x hx => (h.under x hx).1

theorem keyOk_und {t : TypeId} {v : Value} (h : keyOk P t v = true) : ∃ d, P.underlying t = some d := by
  unfold keyOk at h
  split at h
  · split at h
    · exact ⟨_, ‹_›⟩
    · cases h
  · unfold keyCell at h
    split at h <;> first | exact ⟨_, ‹_›⟩ | cases h

section
variable {call : CallF} {fr : Fr} {h h' : Hp} {e : Env} {w : World} {a : Act} {v : Value} {o : Oper}

theorem does_makeMap {t : TypeId} {rsv : Option Operand} (hop : o.op = .makeMap t rsv) (r : Rel P h e w) (hx : ∀ x, rsv = some x → LK h.next e fr a x)
    (ho : oMakeMap t rsv P call fr h = some (v, h')) : Does P (execOp a.eval o) h e w v h' := by
  obtain ⟨h1, h2⟩ := r.new (w' := World.alloc' w (.map #[] 0)) (.map [] 0) (.map #[] 0) 0 rfl
    ⟨#[], by rw [Env.ext_phi]; show (w.heap.push _)[w.heap.size]? = _; exact Array.getElem?_push_size, ⟨rfl, by simp⟩⟩
  have key : v = .map (some h.next) → h' = h.new (.map [] 0) → (Instr.makeMap t (rsv.map a.eval)).run P w = .ok (.map (some w.heap.size)) (World.alloc' w (.map #[] 0)) → Does P (execOp a.eval o) h e w v h' := by
    rintro rfl rfl hrun
    refine ⟨_, _, .map (some w.heap.size), .inl ?_, h1, h2, ⟨by simp [Ev.under], by simp [conc]⟩⟩
    simp only [execOp, hop]
    exact run_v hrun
  unfold oMakeMap at ho
  split at ho
  · cases ho
    exact key rfl rfl (by simp [Instr.makeMap, Sem.run_bind, Sem.run_pure, newObj, Sem.run, World.alloc'])
  · rename_i x
    split at ho
    · rename_i kt et k n hu hl
      cases ho
      refine key rfl rfl ?_
      have hi := (hx x rfl _ hl).int_inv
      simp [Instr.makeMap, Sem.run_bind, und hu, hi, asInt, asIntOf, Sem.run_pure, newObj, Sem.run, World.alloc']
    · cases ho

theorem does_lookup {t : TypeId} {m k : Operand} {c : Bool} (hop : o.op = .lookup t m k c) (r : Rel P h e w) (hm : LK h.next e fr a m) (hk : LK h.next e fr a k)
    (ho : oLookup t m k c P call fr h = some (v, h')) : Does P (execOp a.eval o) h e w v h' := by
  unfold oLookup at ho
  split at ho
  case h_2 => cases ho
  rename_i kt et rm key hu hlm hlk
  have hmr := (hm _ hlm).map_inv
  have hkr := hk _ hlk
  cases hok : keyOk P kt key with
  | false => rw [hok] at ho; cases ho
  | true =>
    rw [hok, cond_true] at ho
    have hkey : a.eval k = key := by rw [hkr.eq]; exact keyOk_conc hok e
    obtain ⟨d, hd⟩ := keyOk_und hok
    have hkk : RV h.next e key key := hkey ▸ hkr
    have main : ∀ {es : List Ent} {es' : Array MapEntry}, REs h.next e es es'.toList →
        ((match findE P kt key es 0 with
          | none => none
          | some (some (_, v, _)) => some (bif c then Value.tuple #[v, .bool true] else v, h)
          | some none => match zeroV P et with
            | none => none
            | some z => some (bif c then Value.tuple #[z, .bool false] else z, h)) = some (v, h')) →
        h' = h ∧ ∃ v', RV h.next e v v' ∧ ∀ (b : Bool), ((do
            Instr.checkKey b 10000 kt (a.eval k)
            let (x, ok) ← match ← Instr.findKey kt (a.eval k) es'.toList with
              | some (_, v) => pure (v, true)
              | none => pure (← zeroValue et, false)
            pure (if c then .tuple #[x, .bool ok] else x) : Sem Value)).run P w = .ok v' w := by
      intro es es' hes h1
      split at h1
      · cases h1
      · rename_i j val born hf
        cases h1
        obtain ⟨_, hat, _⟩ := findE_at es 0 hf
        have hun := (hes.under _ (List.mem_of_getElem? hat)).2
        have hrv : RV h.next e val (conc e val) := ⟨hun, rfl⟩
        refine ⟨rfl, bif c then .tuple #[conc e val, .bool true] else conc e val, ?_, fun b => ?_⟩
        · cases c
          · exact hrv
          · exact hrv.pair RV.bool
        · simp only [Sem.run_bind, hkey, checkKey_ok hok b w, Result.andThen_ok, hes.ent, findKey_ok hd hkk w hes.keys hf, Option.map_some, Sem.run_pure]
          cases c <;> rfl
      · rename_i hf
        split at h1
        · cases h1
        · rename_i z hz
          cases h1
          obtain ⟨hz1, hz2⟩ := zeroV_run hz w
          have hrv : RV h.next e z z := plain_ok hz2 _ _
          refine ⟨rfl, bif c then .tuple #[z, .bool false] else z, ?_, fun b => ?_⟩
          · cases c
            · exact hrv
            · exact hrv.pair RV.bool
          · simp only [Sem.run_bind, hkey, checkKey_ok hok b w, Result.andThen_ok, hes.ent, findKey_ok hd hkk w hes.keys hf, Option.map_none, Sem.run_pure, hz1]
            cases c <;> rfl
    split at ho
    · cases ho
    · rename_i es hes
      split at hes
      · cases hes
        obtain ⟨rfl, v', h1, h2⟩ := main (es := []) (es' := #[]) ⟨rfl, fun x hx => by cases hx⟩ ho
        refine Does.still r (v' := v') ?_ h1
        simp only [execOp, hop]
        refine run_v ?_
        have := h2 (#[] : Array MapEntry).isEmpty
        simp only [Sem.run_bind] at this
        simp only [Instr.lookup, Sem.run_bind, und hu, Result.andThen_ok, hmr, Option.map_none, Sem.run_pure]
        exact this
      · rename_i r0
        split at hes
        · rename_i es0 ck hg
          cases hes
          obtain ⟨_, es', hl1, hl2⟩ := r.lies _ _ hg
          obtain ⟨rfl, v', h1, h2⟩ := main hl2 ho
          refine Does.still r (v' := v') ?_ h1
          simp only [execOp, hop]
          refine run_v ?_
          have := h2 es'.isEmpty
          simp only [Sem.run_bind] at this
          simp only [Instr.lookup, Sem.run_bind, und hu, Result.andThen_ok, hmr, Option.map_some, run_getMap hl1, Sem.run_pure]
          exact this
        · cases hes
end
end Go.Ev
namespace Go.Ev
variable {P : Program}

theorem mapOf_inv {h : Hp} {m : Value} {r : Nat} {es : List Ent} {ck : Nat} (ho : mapOf h m = some (r, es, ck)) : m = .map (some r) ∧ h.get r = some (.map es ck) ∧ Nat.blt r h.low = false := by
  unfold mapOf at ho
  split at ho
  · rename_i r0
    split at ho
    · rename_i es0 ck0 hg
      cases hb : Nat.blt r0 h.low with
      | true => rw [hb] at ho; cases ho
      | false => rw [hb] at ho; cases ho; exact ⟨rfl, hg, hb⟩
    · cases ho
  · cases ho

theorem setAt_eq (v : Value) : ∀ (es : List Ent) (i : Nat), setAt i v es = es.modify i fun x => (x.1, v, x.2.2)
  | [], i => by cases i <;> simp [setAt]
  | x :: es, 0 => by simp [setAt]
  | x :: es, i + 1 => by simp [setAt, setAt_eq v es i]
theorem dropAt_eq : ∀ (es : List Ent) (i : Nat), dropAt i es = es.eraseIdx i
  | [], i => by cases i <;> simp [dropAt]
  | x :: es, 0 => by simp [dropAt]
  | x :: es, i + 1 => by simp [dropAt, dropAt_eq es i]
theorem setAt_mem {v : Value} {x : Ent} : ∀ {es : List Ent} {i : Nat}, x ∈ setAt i v es → (∃ y ∈ es, x = (y.1, v, y.2.2)) ∨ x ∈ es
  | [], i, h => by cases i <;> simp [setAt] at h
  | y :: es, 0, h => by
    simp only [setAt, List.mem_cons] at h
    rcases h with rfl | h
    · exact .inl ⟨y, by simp, rfl⟩
    · exact .inr (by simp [h])
  | y :: es, i + 1, h => by
    simp only [setAt, List.mem_cons] at h
    rcases h with rfl | h
    · exact .inr (by simp)
    · rcases setAt_mem h with ⟨z, hz, e⟩ | h
      · exact .inl ⟨z, by simp [hz], e⟩
      · exact .inr (by simp [h])
theorem REs.setAt {n : Nat} {e : Env} {es : List Ent} {es' : Array MapEntry} (h : REs n e es es'.toList) {v v' : Value} (hv : RV n e v v') (i : Nat) :
    REs n e (Ev.setAt i v es) (es'.modify i fun x => { x with val := v' }).toList := by
  refine ⟨?_, fun x hx => ?_⟩
  · have h1 := h.ent
    show _ = (Ev.setAt i v es).map (entOf e)
    rw [setAt_eq, Array.toList_modify, h1]
    clear h1 h
    induction es generalizing i with
    | nil => cases i <;> simp
    | cons x es ih =>
      cases i with
      | zero => simp [entOf, hv.eq]
      | succ i => simp only [List.map_cons, List.modify_succ_cons]; rw [ih]
  · rcases setAt_mem hx with ⟨y, hy, rfl⟩ | hx
    · exact ⟨(h.under y hy).1, hv.under⟩
    · exact h.under x hx
theorem REs.push {n : Nat} {e : Env} {es : List Ent} {es' : Array MapEntry} (h : REs n e es es'.toList) {k k' v v' : Value} (hk : RV n e k k') (hv : RV n e v v') (b : Nat) :
    REs n e (es ++ [(k, v, b)]) (es'.push { key := k', val := v', born := b }).toList := by
  refine ⟨?_, fun x hx => ?_⟩
  · have h1 := h.ent
    show _ = (es ++ [(k, v, b)]).map (entOf e)
    rw [Array.toList_push, h1]
    simp [entOf, hk.eq, hv.eq]
  · simp only [List.mem_append, List.mem_singleton] at hx
    rcases hx with hx | rfl
    · exact h.under x hx
    · exact ⟨hk.under, hv.under⟩
theorem REs.dropAt {n : Nat} {e : Env} {es : List Ent} {es' : Array MapEntry} (h : REs n e es es'.toList) (i : Nat) :
    REs n e (Ev.dropAt i es) (es'.eraseIdxIfInBounds i).toList := by
  refine ⟨?_, fun x hx => ?_⟩
  · have h1 := h.ent
    show _ = (Ev.dropAt i es).map (entOf e)
    rw [dropAt_eq]
    have h2 : (es'.eraseIdxIfInBounds i).toList = es'.toList.eraseIdx i := by
      unfold Array.eraseIdxIfInBounds
      split
      · rw [Array.toList_eraseIdx]
      · rename_i hn
        rw [List.eraseIdx_of_length_le (by simpa using hn)]
    rw [h2, h1]
    clear h2 h1 h
    induction es generalizing i with
    | nil => simp
    | cons x es ih =>
      cases i with
      | zero => simp
      | succ i => simp only [List.map_cons, List.eraseIdx_cons_succ]; rw [ih]
  · rw [dropAt_eq] at hx
    exact h.under x (List.mem_of_mem_eraseIdx hx)

end Go.Ev
namespace Go.Ev
variable {P : Program}

theorem keyStays {x : Value} (h : Instr.sameBits 10000 x x = true) (w : World) : (Instr.keyThatStays x x).run P w = .ok x w := by
  unfold Instr.keyThatStays
  rw [if_pos h]
  rfl
theorem modify_key {es' : Array MapEntry} {es : List Ent} {e : Env} (he : es'.toList = es.map (entOf e)) {k : Value} {j : Nat} {x : Value × Nat} (hat : es[j]? = some (k, x)) (hk : conc e k = k) :
    (es'[j]?).map (·.key) = some k ∧ (es'[j]?).map (fun y => (y.born : Int)) = some (x.2 : Int) := by
  have : es'[j]? = some (entOf e (k, x)) := by rw [← Array.getElem?_toList, he]; simp [hat]
  rw [this]
  simp [entOf, hk]
theorem modify_same {es' : Array MapEntry} {es : List Ent} {e : Env} (he : es'.toList = es.map (entOf e)) {k : Value} {j : Nat} {x : Value × Nat} (hat : es[j]? = some (k, x)) (hk : conc e k = k) (f : MapEntry → MapEntry) :
    (es'.modify j fun y => f { y with key := k }) = es'.modify j f := by
  have : es'[j]? = some (entOf e (k, x)) := by rw [← Array.getElem?_toList, he]; simp [hat]
  apply Array.ext_getElem?
  intro i
  rw [Array.getElem?_modify, Array.getElem?_modify]
  split
  · rename_i hji
    subst hji
    rw [this]
    simp [entOf, hk]
  · rfl

section
variable {call : CallF} {fr : Fr} {h h' : Hp} {e : Env} {w : World} {a : Act} {v : Value} {o : Oper}

theorem does_mapUpdate {t : TypeId} {m k x : Operand} (hop : o.op = .mapUpdate t m k x) (r : Rel P h e w) (hm : LK h.next e fr a m) (hk : LK h.next e fr a k) (hx : LK h.next e fr a x)
    (ho : oMapUpdate t m k x P call fr h = some (v, h')) : Does P (execOp a.eval o) h e w v h' := by
  unfold oMapUpdate at ho
  split at ho
  case h_2 => cases ho
  rename_i kt et mv key val hu hlm hlk hlx
  have hkr := hk _ hlk
  have hxr := hx _ hlx
  cases hok : keyOk P kt key with
  | false => rw [hok] at ho; cases ho
  | true =>
    rw [hok, cond_true] at ho
    have hke : conc e key = key := keyOk_conc hok e
    have hkey : a.eval k = key := by rw [hkr.eq]; exact hke
    obtain ⟨d, hd⟩ := keyOk_und hok
    have hkk : RV h.next e key key := hkey ▸ hkr
    split at ho
    · cases ho
    · rename_i rr es ck hmo
      obtain ⟨rfl, hg, hlow⟩ := mapOf_inv hmo
      have hmr := (hm _ hlm).map_inv
      obtain ⟨_, es', hl1, hl2⟩ := r.lies _ _ hg
      have done : ∀ {es2 : List Ent} {es2' : Array MapEntry} {ck2 : Nat}, v = undef → h' = h.put rr (some (.map es2 ck2)) → REs h.next e es2 es2'.toList →
          (Instr.mapUpdate t (a.eval m) (a.eval k) (a.eval x)).run P w = .ok () { w with heap := w.heap.setIfInBounds (e.phi rr) (.map es2' ck2) } → Does P (execOp a.eval o) h e w v h' := by
        rintro es2 es2' ck2 rfl rfl hes hrun
        obtain ⟨h1, h2⟩ := r.turn (x := .map es2 ck2) (o := .map es2' ck2) hg hlow (fun w' hw' => ⟨es2', hw', hes⟩)
        refine ⟨e, _, undef, .inr ⟨?_, rfl⟩, h1, h2, ⟨by simp [undef, Ev.under, underA, underL], by simp [undef, conc, concA, concL]⟩⟩
        simp only [execOp, hop]
        exact run_u hrun
      have run0 : ∀ {R : Result Unit}, ((do
            Instr.checkKey false 10000 kt key
            match ← Instr.findKey kt key es'.toList with
            | some (i, _) => do
              let key ← Instr.keyThatStays (((es'[i]?).map (·.key)).getD key) key
              setObj (e.phi rr) (.map (es'.modify i fun y => { y with key, val := a.eval x }) ck)
            | none => setObj (e.phi rr) (.map (es'.push { key, val := a.eval x, born := ck }) (ck + 1)) : Sem Unit)).run P w = R →
          (Instr.mapUpdate t (a.eval m) (a.eval k) (a.eval x)).run P w = R := by
        intro R hR
        rw [← hR, hmr, hkey]
        simp only [Instr.mapUpdate, Sem.run_bind, und hu, Result.andThen_ok, Option.map_some, run_getMap hl1]
        rfl
      split at ho
      · cases ho
      · rename_i hf
        cases ho
        refine done rfl rfl (hl2.push hkk hxr ck) (run0 ?_)
        simp only [Sem.run_bind, checkKey_ok hok false w, Result.andThen_ok, hl2.ent, findKey_ok hd hkk w hl2.keys hf, Option.map_none, run_setMap _ hl1]
      · rename_i i y hf
        cases ho
        obtain ⟨_, hat, hsb⟩ := findE_at es 0 hf
        simp only [Nat.sub_zero] at hat
        have hmk := (modify_key hl2.ent hat hke).1
        refine done rfl rfl (hl2.setAt hxr i) (run0 ?_)
        simp only [Sem.run_bind, checkKey_ok hok false w, Result.andThen_ok, hl2.ent, findKey_ok hd hkk w hl2.keys hf, Option.map_some, hmk, Option.getD_some, keyStays hsb w, run_setMap _ hl1]
        rw [modify_same hl2.ent hat hke (fun y => { y with val := a.eval x })]
end
end Go.Ev
namespace Go.Ev
variable {P : Program}

theorem bornAt_eq (b : Nat) : ∀ (es : List Ent) (i : Nat), bornAt b es i = (es.findIdx? fun x => (x.2.2 : Int) == (b : Int)).map (i + ·)
  | [], i => by simp [bornAt]
  | x :: es, i => by
    unfold bornAt
    rw [List.findIdx?_cons]
    cases hb : Nat.beq x.2.2 b with
    | true =>
      have := Nat.eq_of_beq_eq_true hb
      simp [this]
    | false =>
      have hne : ¬ ((x.2.2 : Int) == (b : Int)) = true := by
        intro hc
        have := eq_of_beq hc
        have : x.2.2 = b := by omega
        rw [this] at hb
        simp at hb
      rw [cond_false, bornAt_eq b es (Nat.add i 1)]
      simp only [hne, Bool.false_eq_true, if_false]
      cases es.findIdx? fun x => (x.2.2 : Int) == (b : Int) with
      | none => rfl
      | some j => simp; omega

section
variable {call : CallF} {fr : Fr} {h h' : Hp} {e : Env} {w : World} {a : Act} {v : Value} {o : Oper}

theorem does_mapEntry {t : TypeId} {m k : Operand} (hop : o.op = .mapEntry t m k) (r : Rel P h e w) (hm : LK h.next e fr a m) (hk : LK h.next e fr a k)
    (ho : oMapEntry t m k P call fr h = some (v, h')) : Does P (execOp a.eval o) h e w v h' := by
  unfold oMapEntry at ho
  split at ho
  case h_2 => cases ho
  rename_i kt et mv key hu hlm hlk
  have hkr := hk _ hlk
  cases hok : keyOk P kt key with
  | false => rw [hok] at ho; cases ho
  | true =>
    rw [hok, cond_true] at ho
    have hke : conc e key = key := keyOk_conc hok e
    have hkey : a.eval k = key := by rw [hkr.eq]; exact hke
    obtain ⟨d, hd⟩ := keyOk_und hok
    have hkk : RV h.next e key key := hkey ▸ hkr
    split at ho
    · cases ho
    · rename_i rr es ck hmo
      obtain ⟨rfl, hg, hlow⟩ := mapOf_inv hmo
      have hmr := (hm _ hlm).map_inv
      obtain ⟨_, es', hl1, hl2⟩ := r.lies _ _ hg
      have run0 : ∀ {R : Result Value}, ((do
            Instr.checkKey false 10000 kt key
            match ← Instr.findKey kt key es'.toList with
            | some (i, v) =>
              let key ← Instr.keyThatStays (((es'[i]?).map (·.key)).getD key) key
              setObj (e.phi rr) (.map (es'.modify i fun y => { y with key }) ck)
              pure (.tuple #[v, goInt (((es'[i]?).map (·.born)).getD 0)])
            | none =>
              let zero ← zeroValue et
              setObj (e.phi rr) (.map (es'.push { key, val := zero, born := ck }) (ck + 1))
              pure (.tuple #[zero, goInt ck]) : Sem Value)).run P w = R →
          (Instr.mapEntry t (a.eval m) (a.eval k)).run P w = R := by
        intro R hR
        rw [← hR, hmr, hkey]
        simp only [Instr.mapEntry, Sem.run_bind, und hu, Result.andThen_ok, Option.map_some, run_getMap hl1]
        rfl
      split at ho
      · cases ho
      · rename_i hf
        split at ho
        · cases ho
        · rename_i z hz
          cases ho
          obtain ⟨hz1, hz2⟩ := zeroV_run hz w
          have hzr : RV h.next e z z := plain_ok hz2 _ _
          obtain ⟨h1, h2⟩ := r.turn (x := .map (es ++ [(key, z, ck)]) (Nat.add ck 1)) (o := .map (es'.push { key, val := z, born := ck }) (ck + 1)) hg hlow (fun w' hw' => ⟨_, hw', hl2.push hkk hzr ck⟩)
          refine ⟨e, _, .tuple #[z, goInt ck], .inl ?_, h1, h2, hzr.pair RV.int⟩
          simp only [execOp, hop]
          refine run_v (run0 ?_)
          simp only [Sem.run_bind, checkKey_ok hok false w, Result.andThen_ok, hl2.ent, findKey_ok hd hkk w hl2.keys hf, Option.map_none, hz1, run_setMap _ hl1, Sem.run_pure]
      · rename_i i val b hf
        cases ho
        obtain ⟨_, hat, hsb⟩ := findE_at es 0 hf
        simp only [Nat.sub_zero] at hat
        obtain ⟨hmk, hmb⟩ := modify_key hl2.ent hat hke
        have hun := (hl2.under _ (List.mem_of_getElem? hat)).2
        have hsame : w.heap.setIfInBounds (e.phi rr) (.map (es'.modify i fun y => y) ck) = w.heap := by
          have hmod : (es'.modify i fun y => y) = es' := by
            apply Array.ext_getElem?
            intro j
            rw [Array.getElem?_modify]
            split
            · rename_i hji; subst hji; simp
            · rfl
          rw [hmod]
          apply Array.ext_getElem?
          intro j
          rw [Array.getElem?_setIfInBounds]
          split
          · rename_i hji
            subst hji
            rw [if_pos (r.lt hg)]
            exact hl1.symm
          · rfl
        refine Does.still r (v' := .tuple #[conc e val, goInt b]) ?_ (RV.pair ⟨hun, rfl⟩ RV.int)
        simp only [execOp, hop]
        refine run_v (run0 ?_)
        simp only [Sem.run_bind, checkKey_ok hok false w, Result.andThen_ok, hl2.ent, findKey_ok hd hkk w hl2.keys hf, Option.map_some, hmk, hmb, Option.getD_some, keyStays hsb w, run_setMap _ hl1, Sem.run_pure]
        rw [modify_same hl2.ent hat hke (fun y => y), hsame]

theorem does_entryStore {t : TypeId} {m s x : Operand} (hop : o.op = .entryStore t m s x) (r : Rel P h e w) (hm : LK h.next e fr a m) (hs : LK h.next e fr a s) (hx : LK h.next e fr a x)
    (ho : oEntryStore t m s x P call fr h = some (v, h')) : Does P (execOp a.eval o) h e w v h' := by
  unfold oEntryStore at ho
  split at ho
  case h_2 => cases ho
  rename_i mv kd b val hlm hls hlx
  have hxr := hx _ hlx
  have hsi := (hs _ hls).int_inv
  split at ho
  · cases ho
  · rename_i rr es ck hmo
    obtain ⟨rfl, hg, hlow⟩ := mapOf_inv hmo
    have hmr := (hm _ hlm).map_inv
    obtain ⟨_, es', hl1, hl2⟩ := r.lies _ _ hg
    split at ho
    · cases ho
    · rename_i i hb
      cases ho
      obtain ⟨h1, h2⟩ := r.turn (x := .map (setAt i val es) ck) (o := .map (es'.modify i fun y => { y with val := a.eval x }) ck) hg hlow (fun w' hw' => ⟨_, hw', hl2.setAt hxr i⟩)
      refine ⟨e, _, undef, .inr ⟨?_, rfl⟩, h1, h2, ⟨by simp [undef, Ev.under, underA, underL], by simp [undef, conc, concA, concL]⟩⟩
      simp only [execOp, hop]
      refine run_u ?_
      have hidx : es'.findIdx? (fun y => (y.born : Int) == (b : Int)) = some i := by
        rw [bornAt_eq] at hb
        have hfi : es'.findIdx? (fun y => (y.born : Int) == (b : Int)) = es'.toList.findIdx? (fun y => (y.born : Int) == (b : Int)) := by cases es'; simp
        rw [hfi, hl2.ent, List.findIdx?_map]
        cases hq : es.findIdx? fun x => (x.2.2 : Int) == (b : Int) with
        | none => rw [hq] at hb; cases hb
        | some j =>
          rw [hq] at hb
          simp at hb
          subst hb
          exact hq
      rw [hmr, hsi]
      simp only [Instr.entryStore, Option.map_some, Sem.run_bind, run_getMap hl1, Result.andThen_ok, asInt, asIntOf, Sem.run_pure]
      have : (Int.ofNat b) = (b : Int) := rfl
      simp only [this, hidx, run_setMap _ hl1]
end
end Go.Ev
namespace Go.Ev
variable {P : Program}

/-- an operation's value is made -/
def DoesV (P : Program) (s : Sem Value) (h : Hp) (e : Env) (w : World) (v : Value) (h' : Hp) : Prop :=
  ∃ e' w' v', s.run P w = .ok v' w' ∧ Rel P h' e' w' ∧ Stp h e w h' e' w' ∧ RV h'.next e' v v'

theorem DoesV.still {s : Sem Value} {h : Hp} {e : Env} {w : World} {v v' : Value} (r : Rel P h e w) (hs : s.run P w = .ok v' w) (hv : RV h.next e v v') : DoesV P s h e w v h :=
  ⟨e, w, v', hs, r, Stp.refl _ _ _, hv⟩
theorem DoesV.does {s : Sem Value} {h h' : Hp} {e : Env} {w : World} {v : Value} (d : DoesV P s h e w v h') : Does P (do pure (Next.value (← s))) h e w v h' :=
  let ⟨e', w', v', h1, h2, h3, h4⟩ := d
  ⟨e', w', v', .inl (run_v h1), h2, h3, h4⟩

theorem RV.unit {n : Nat} {e : Env} : RV n e (.tuple #[]) (.tuple #[]) := ⟨by simp [Ev.under, underA, underL], by simp [conc, concA, concL]⟩

end Go.Ev
namespace Go.Ev
variable {P : Program}

theorem evDelete_ok {t ty : Nat} {m k m' k' v : Value} {h h' : Hp} {e : Env} {w : World} {ts : List TypeId} {xs : List Value} (r : Rel P h e w) (hm : RV h.next e m m') (hkr : RV h.next e k k')
    (ho : evDelete P h t m k = some (v, h')) : DoesV P (Builtin.delete_ (t :: ts).toArray ty (m' :: k' :: xs).toArray) h e w v h' := by
  unfold evDelete at ho
  split at ho
  case h_2 => cases ho
  rename_i kt et hu
  cases hok : keyOk P kt k with
  | false => rw [hok] at ho; cases ho
  | true =>
    rw [hok, cond_true] at ho
    have hke : conc e k = k := keyOk_conc hok e
    have hkey : k' = k := by rw [hkr.eq]; exact hke
    subst hkey
    obtain ⟨d, hd⟩ := keyOk_und hok
    split at ho
    · cases ho
      have hmr := hm.map_inv
      subst hmr
      refine DoesV.still (v' := .tuple #[]) r ?_ RV.unit
      simp [Builtin.delete_, Sem.run_bind, und hu, checkKey_ok hok true w, Sem.run_pure]
    · split at ho
      · cases ho
      · rename_i rr es ck hmo
        obtain ⟨rfl, hg, hlow⟩ := mapOf_inv hmo
        have hmr := hm.map_inv
        subst hmr
        obtain ⟨_, es', hl1, hl2⟩ := r.lies _ _ hg
        have run0 : ∀ {R : Result Value}, ((do
              Instr.checkKey es'.isEmpty 10000 kt k'
              match ← Instr.findKey kt k' es'.toList with
              | some (i, _) => setObj (e.phi rr) (.map (es'.eraseIdxIfInBounds i) ck)
              | none => setObj (e.phi rr) (.map es' ck)
              pure (.tuple #[]) : Sem Value)).run P w = R →
            (Builtin.delete_ (t :: ts).toArray ty (Value.map (Option.map e.phi (some rr)) :: k' :: xs).toArray).run P w = R := by
          intro R hR
          rw [← hR]
          simp only [Builtin.delete_, List.getElem?_toArray, List.getElem?_cons_zero, List.getElem?_cons_succ, Sem.run_bind, und hu, Result.andThen_ok, Option.map_some, run_getMap hl1]
          rfl
        split at ho
        · cases ho
        · rename_i hf
          cases ho
          have hsame : w.heap.setIfInBounds (e.phi rr) (.map es' ck) = w.heap := by
            apply Array.ext_getElem?
            intro j
            rw [Array.getElem?_setIfInBounds]
            split
            · rename_i hji
              subst hji
              rw [if_pos (r.lt hg)]
              exact hl1.symm
            · rfl
          refine DoesV.still (v' := .tuple #[]) r (run0 ?_) RV.unit
          simp only [Sem.run_bind, checkKey_ok hok _ w, Result.andThen_ok, hl2.ent, findKey_ok hd hkr w hl2.keys hf, Option.map_none, run_setMap _ hl1, Sem.run_pure, hsame]
        · rename_i i y hf
          cases ho
          obtain ⟨h1, h2⟩ := r.turn (x := .map (dropAt i es) ck) (o := .map (es'.eraseIdxIfInBounds i) ck) hg hlow (fun w' hw' => ⟨_, hw', hl2.dropAt i⟩)
          refine ⟨e, _, .tuple #[], run0 ?_, h1, h2, RV.unit⟩
          simp only [Sem.run_bind, checkKey_ok hok _ w, Result.andThen_ok, hl2.ent, findKey_ok hd hkr w hl2.keys hf, Option.map_some, run_setMap _ hl1, Sem.run_pure]

end Go.Ev
namespace Go.Ev
variable {P : Program}

section
variable {call : CallF} {fr : Fr} {h h' : Hp} {e : Env} {w : World} {a : Act} {v : Value} {o : Oper}

theorem does_range {t : TypeId} {x : Operand} (hop : o.op = .range t x) (r : Rel P h e w) (hx : LK h.next e fr a x)
    (ho : oRange t x P call fr h = some (v, h')) : Does P (execOp a.eval o) h e w v h' := by
  have key : ∀ {m : Option Nat} {s c : Nat}, (∀ q, m = some q → q < h.next) → (Instr.range t (a.eval x)).run P w = .ok (.pointer (some ⟨w.heap.size, 0, none⟩)) (World.alloc' w (.mapIter (m.map e.phi) s #[] c)) →
      v = newPtr h → h' = h.new (.iter m s [] c) → Does P (execOp a.eval o) h e w v h' := by
    rintro m s c hm hrun rfl rfl
    have hag := e.ext_agree h.next w.heap.size 0
    obtain ⟨h1, h2⟩ := r.new (w' := World.alloc' w (.mapIter (m.map e.phi) s #[] c)) (.iter m s [] c) (.mapIter (m.map e.phi) s #[] c) 0 rfl
      ⟨fun q hq => by have := hm q hq; omega, by rw [Env.ext_phi, phi_agree hag m hm]; show (w.heap.push _)[w.heap.size]? = _; exact Array.getElem?_push_size⟩
    have hp := RV.newPtr (h := h) (e.ext h.next w.heap.size 0) (.iter m s [] c)
    rw [Env.ext_phi] at hp
    refine ⟨_, _, _, .inl ?_, h1, h2, hp⟩
    simp only [execOp, hop]
    exact run_v hrun
  unfold oRange at ho
  split at ho
  · rename_i kt et hu hl
    cases ho
    have hmr := (hx _ hl).map_inv
    refine key (m := none) (s := 0) (c := 0) (fun q hq => by cases hq) ?_ rfl rfl
    simp [Instr.range, Sem.run_bind, und hu, hmr, Sem.run_pure, newObj, Sem.run, World.alloc']
  · rename_i kt et m hu hl
    have hmr := (hx _ hl).map_inv
    split at ho
    · rename_i es ck hg
      cases ho
      obtain ⟨hlt, es', hl1, hl2⟩ := r.lies _ _ hg
      refine key (m := some m) (s := ck) (c := ck) (fun q hq => by cases hq; exact hlt) ?_ rfl rfl
      simp [Instr.range, Sem.run_bind, und hu, hmr, run_getMap hl1, Sem.run_pure, newObj, Sem.run, World.alloc']
    · cases ho
  · cases ho

theorem lastOf_eq : ∀ l : List Nat, lastOf l = l.getLast?
  | [] => rfl
  | [x] => rfl
  | x :: y :: l => by simp only [lastOf, lastOf_eq (y :: l)]; simp
theorem bornE_eq (b : Nat) : ∀ es : List Ent, bornE b es = es.find? fun x => x.2.2 == b
  | [] => rfl
  | x :: es => by
    unfold bornE
    rw [List.find?_cons]
    cases hb : Nat.beq x.2.2 b with
    | true => have := Nat.eq_of_beq_eq_true hb; simp [this]
    | false =>
      have hne : (x.2.2 == b) = false := by
        cases hc : x.2.2 == b with
        | false => rfl
        | true => have := eq_of_beq hc; rw [this] at hb; simp at hb
      rw [hne, cond_false]
      exact bornE_eq b es

theorem addr0 {ad : Addr} (hz : (Nat.beq ad.off 0 && ad.spot.isNone) = true) (e : Env) : cA e ad = ⟨e.phi ad.block, 0, none⟩ := by
  rw [Bool.and_eq_true] at hz
  have h0 := Nat.eq_of_beq_eq_true hz.1
  have hs : ad.spot = none := by simpa using hz.2
  rw [cA_none hs, h0]

theorem does_entry {x : Operand} (hop : o.op = .entry x) (r : Rel P h e w) (hx : LK h.next e fr a x)
    (ho : oEntry x P call fr h = some (v, h')) : Does P (execOp a.eval o) h e w v h' := by
  unfold oEntry at ho
  split at ho
  case h_2 => cases ho
  rename_i ad hl
  cases hz : (Nat.beq ad.off 0 && ad.spot.isNone) with
  | false => rw [hz] at ho; cases ho
  | true =>
    rw [hz, cond_true] at ho
    have hp : a.eval x = .pointer (some ⟨e.phi ad.block, 0, none⟩) := by
      have := (hx _ hl).eq
      rw [this]
      simp only [conc, Option.map_some, addr0 hz e]
    split at ho
    case h_2 => cases ho
    rename_i m since seen stepped hg
    obtain ⟨_, hi1, hi2⟩ := r.lies _ _ hg
    split at ho
    case h_2 => cases ho
    rename_i b es ck hlast hgm
    obtain ⟨_, es', hl1, hl2⟩ := r.lies _ _ hgm
    cases hc : Nat.beq ck stepped with
    | false => rw [hc] at ho; cases ho
    | true =>
      rw [hc, cond_true] at ho
      have hc := Nat.eq_of_beq_eq_true hc
      subst hc
      split at ho
      case h_2 => cases ho
      rename_i en hen
      cases ho
      rw [bornE_eq] at hen
      rw [lastOf_eq] at hlast
      have hmem := List.mem_of_find?_eq_some hen
      obtain ⟨hu1, hu2⟩ := hl2.under _ hmem
      refine Does.still r (v' := .tuple #[conc e en.1, conc e en.2.1]) ?_ (RV.pair ⟨hu1, rfl⟩ ⟨hu2, rfl⟩)
      simp only [execOp, hop]
      refine run_v ?_
      have hback : seen.toArray.back? = some b := by rw [← hlast]; simp [Array.back?_eq_getElem?, List.getLast?_eq_getElem?]
      have hfind : es'.find? (fun y => y.born == b) = some (entOf e en) := by
        have : es'.find? (fun y => y.born == b) = es'.toList.find? (fun y => y.born == b) := by cases es'; simp
        rw [this, hl2.ent, List.find?_map]
        have : (fun y : MapEntry => y.born == b) ∘ entOf e = fun x : Ent => x.2.2 == b := rfl
        rw [this, hen]
        rfl
      rw [hp]
      simp only [Instr.entry, Sem.run_bind, run_getIter hi2, Result.andThen_ok, Option.map_some, hback, run_getMap hl1, bne_self_eq_false, Bool.false_eq_true, if_false, Sem.run_pure, hfind]
      rfl
end
end Go.Ev
namespace Go.Ev
variable {P : Program}

theorem memN_eq (n : Nat) (l : List Nat) : memN n l = l.contains n := by
  unfold memN
  induction l with
  | nil => rfl
  | cons x l ih =>
    rw [List.any_cons, List.contains_cons, ih]
    congr 1
    cases hb : Nat.beq x n with
    | true => have := Nat.eq_of_beq_eq_true hb; subst this; simp
    | false =>
      have : ¬ n = x := by rintro rfl; simp at hb
      simp [this]
theorem left_eq {e : Env} {es : List Ent} {es' : Array MapEntry} (he : es'.toList = es.map (entOf e)) (seen : List Nat) :
    (es'.filter fun y => !seen.toArray.contains y.born) = ((leftOf seen es).map (entOf e)).toArray := by
  apply Array.toList_inj.1
  rw [Array.toList_filter, he, List.filter_map]
  show _ = (leftOf seen es).map (entOf e)
  congr 1
  unfold leftOf
  apply List.filter_congr
  intro x _
  simp only [Function.comp, entOf, memN_eq]
  simp
theorem choose1 (w : World) : (choose (.mapNext 1)).run P w = .ok 0 w := rfl

section
variable {call : CallF} {fr : Fr} {h h' : Hp} {e : Env} {w : World} {a : Act} {v : Value} {o : Oper}

theorem does_next {x : Operand} {b : Bool} (hop : o.op = .next x b) (r : Rel P h e w) (hx : LK h.next e fr a x)
    (ho : oNext x b P call fr h = some (v, h')) : Does P (execOp a.eval o) h e w v h' := by
  unfold oNext at ho
  split at ho
  case h_2 => cases ho
  rename_i ad hl
  cases hz : (Nat.beq ad.off 0 && ad.spot.isNone && not (Nat.blt ad.block h.low)) with
  | false => rw [hz] at ho; cases ho
  | true =>
    rw [hz, cond_true] at ho
    rw [Bool.and_eq_true] at hz
    obtain ⟨hz, hlow⟩ := hz
    have hlow : Nat.blt ad.block h.low = false := by simpa using hlow
    have hp : a.eval x = .pointer (some ⟨e.phi ad.block, 0, none⟩) := by
      have := (hx _ hl).eq
      rw [this]
      simp only [conc, Option.map_some, addr0 hz e]
    have over : (Instr.next (a.eval x) false o.type).run P w = .ok (.tuple #[.bool false]) w → Does P (execOp a.eval o) h e w (.tuple #[.bool false]) h := by
      intro hrun
      refine Does.still r (v' := .tuple #[.bool false]) ?_ ⟨by simp [Ev.under, underA, underL], by simp [conc, concA, concL]⟩
      simp only [execOp, hop]
      exact run_v hrun
    split at ho
    · rename_i s0 sn0 l0 hg
      cases ho
      obtain ⟨_, hi1, hi2⟩ := r.lies _ _ hg
      refine over ?_
      rw [hp]
      simp only [Instr.next, Sem.run_bind, run_getIter hi2, Result.andThen_ok, Option.map_none, Sem.run_pure]
    · rename_i m since seen last hg
      obtain ⟨_, hi1, hi2⟩ := r.lies _ _ hg
      split at ho
      case h_2 => cases ho
      rename_i es ck hgm
      obtain ⟨_, es', hl1, hl2⟩ := r.lies _ _ hgm
      cases hbad : (not seen.isEmpty && not es.isEmpty && es.all fun y => Nat.ble last y.2.2) with
      | true => rw [hbad] at ho; cases ho
      | false =>
        rw [hbad, cond_false] at ho
        have hbad' : (!seen.toArray.isEmpty && !es'.isEmpty && es'.all fun y => decide (y.born ≥ last)) = false := by
          rw [← hbad]
          have h1 : seen.toArray.isEmpty = seen.isEmpty := by simp
          have h2 : es'.isEmpty = es.isEmpty := by rw [← Array.isEmpty_toList, hl2.ent]; cases es <;> rfl
          have h3 : (es'.all fun y => decide (y.born ≥ last)) = es.all fun y => Nat.ble last y.2.2 := by
            rw [← Array.all_toList, hl2.ent, List.all_map]
            congr 1
            funext y
            simp only [Function.comp, entOf]
            cases hq : Nat.ble last y.2.2 with
            | true => simpa using Nat.le_of_ble_eq_true hq
            | false => simp; exact Nat.lt_of_not_le fun hc => by rw [← Nat.ble_eq, hq] at hc; cases hc
          rw [h1, h2, h3]
        have run0 : ∀ {R : Result Value}, ((do
              let left := ((leftOf seen es).map (entOf e)).toArray
              let old := left.filter (·.born < since)
              let new := left.filter (·.born ≥ since)
              let candidates := (if old.isEmpty then #[none] else #[]) ++ (old ++ new).map some
              match candidates[← choose (.mapNext candidates.size)]? with
              | some (some y) =>
                setObj (e.phi ad.block) (.mapIter (some (e.phi m)) since (seen.toArray.push y.born) ck)
                pure (.tuple #[.bool true, y.key, y.val])
              | some none => pure (.tuple #[.bool false])
              | none => stuck "Next: no such candidate" : Sem Value)).run P w = R →
            (Instr.next (a.eval x) false o.type).run P w = R := by
          intro R hR
          rw [← hR, hp, ← left_eq hl2.ent seen]
          simp only [Instr.next, Sem.run_bind, run_getIter hi2, Result.andThen_ok, Option.map_some, run_getMap hl1, hbad', Bool.false_eq_true, if_false, Sem.run_pure]
          rfl
        split at ho
        · rename_i hleft
          cases ho
          refine over (run0 ?_)
          rw [hleft]
          simp [Sem.run_bind, Sem.run_pure]
          intro hc
          cases hc
        · rename_i y hleft
          cases hs : Nat.blt y.2.2 since with
          | false => rw [hs] at ho; cases ho
          | true =>
            rw [hs] at ho
            cases ho
            have hs : y.2.2 < since := by rw [Nat.blt_eq] at hs; exact hs
            have hmem : y ∈ es := (List.mem_filter.1 (show y ∈ leftOf seen es by rw [hleft]; simp)).1
            obtain ⟨hu1, hu2⟩ := hl2.under _ hmem
            obtain ⟨h1, h2⟩ := r.turn (x := .iter (some m) since (seen ++ [y.2.2]) ck) (o := .mapIter (some (e.phi m)) since (seen.toArray.push y.2.2) ck) hg hlow
              (fun w' hw' => ⟨hi1, by rw [hw']; simp⟩)
            refine ⟨e, _, .tuple #[.bool true, conc e y.1, conc e y.2.1], .inl ?_, h1, h2, ⟨by simp only [Ev.under, underA, underL]; exact ⟨trivial, hu1, hu2, trivial⟩, by simp [conc, concA, concL]⟩⟩
            simp only [execOp, hop]
            refine run_v (run0 ?_)
            rw [hleft]
            have e1 : ((([y].map (entOf e)).toArray).filter fun z => decide (z.born < since)) = #[entOf e y] := by simp [entOf, hs]
            have e2 : ((([y].map (entOf e)).toArray).filter fun z => decide (z.born ≥ since)) = #[] := by simp [entOf]; omega
            simp only [e1, e2]
            have hset := run_setIter (P := P) (.mapIter (some (e.phi m)) since (seen.toArray.push y.2.2) ck) hi2
            have e3 : ((if (#[entOf e y] : Array MapEntry).isEmpty = true then #[none] else #[]) ++ Array.map some (#[entOf e y] ++ #[])) = #[some (entOf e y)] := by simp
            rw [e3]
            simp only [Sem.run_bind]
            show ((choose (.mapNext 1)).run P w).andThen _ = _
            rw [choose1, Result.andThen_ok]
            show ((do
              setObj (e.phi ad.block) (.mapIter (some (e.phi m)) since (seen.toArray.push y.2.2) ck)
              pure (.tuple #[.bool true, conc e y.1, conc e y.2.1]) : Sem Value)).run P w = _
            simp only [Sem.run_bind, hset, Result.andThen_ok, Sem.run_pure]
        · cases ho
    · cases ho
end
end Go.Ev
namespace Go.Ev
variable {P : Program}
section
variable {call : CallF} {fr : Fr} {h h' : Hp} {e : Env} {w : World} {a : Act} {v : Value} {o : Oper}

theorem does_typeAssert {x : Operand} {xt t : TypeId} {c : Bool} (hop : o.op = .typeAssert x xt t c) (r : Rel P h e w) (hx : LK h.next e fr a x)
    (ho : oTypeAssert x xt t c P call fr h = some (v, h')) : Does P (execOp a.eval o) h e w v h' := by
  have fail : ∀ {d : TypeDesc} {x' : Value}, P.underlying t = some d → (∀ ms, d ≠ .interface ms) → a.eval x = x' → (x' = .nilIface ∨ ∃ u y, x' = .iface u y ∧ u ≠ t) →
      (bif c then match zeroV P t with | none => none | some z => some (Value.tuple #[z, .bool false], h) else none) = some (v, h') → Does P (execOp a.eval o) h e w v h' := by
    intro d x' hu hd hx' hshape ho
    cases c with
    | false => cases ho
    | true =>
      rw [cond_true] at ho
      split at ho
      · cases ho
      · rename_i z hz
        cases ho
        obtain ⟨hz1, hz2⟩ := zeroV_run hz w
        have hzr : RV h.next e z z := plain_ok hz2 _ _
        refine Does.still r (v' := .tuple #[z, .bool false]) ?_ (hzr.pair RV.bool)
        simp only [execOp, hop, hx']
        refine run_v ?_
        simp only [Instr.typeAssert, Sem.run_bind, und hu, Result.andThen_ok, if_true]
        rcases hshape with rfl | ⟨u, y, rfl, hne⟩
        · cases d <;> first | exact absurd rfl (hd _) | simp [Sem.run_bind, hz1, Sem.run_pure]
        · cases d <;> first | exact absurd rfl (hd _) | simp [Sem.run_bind, hz1, Sem.run_pure, hne]
  unfold oTypeAssert at ho
  split at ho
  · cases ho
  · rename_i d hd hu hl
    have hx' : a.eval x = .nilIface := by have := (hx _ hl).eq; simpa [conc] using this
    exact fail hu hd hx' (.inl rfl) ho
  · rename_i d u y hd hu hl
    have hx' : a.eval x = .iface u (conc e y) := by have := (hx _ hl).eq; simpa [conc] using this
    have hy : RV h.next e y (conc e y) := ⟨by have := (hx _ hl).under; simpa only [Ev.under] using this, rfl⟩
    cases hut : Nat.beq u t with
    | false =>
      rw [hut, cond_false] at ho
      exact fail hu hd hx' (.inr ⟨u, _, rfl, fun he => by rw [he] at hut; simp at hut⟩) ho
    | true =>
      rw [hut, cond_true] at ho
      have hut := Nat.eq_of_beq_eq_true hut
      subst hut
      cases ho
      refine Does.still r (v' := bif c then .tuple #[conc e y, .bool true] else conc e y) ?_ ?_
      · simp only [execOp, hop, hx']
        refine run_v ?_
        simp only [Instr.typeAssert, Sem.run_bind, und hu, Result.andThen_ok]
        cases d <;> first | exact absurd rfl (hd _) | (cases c <;> simp [Sem.run_pure])
      · cases c
        · exact hy
        · exact hy.pair RV.bool
  · cases ho
end
end Go.Ev
namespace Go.Ev
variable {P : Program}

theorem evLen_ok {t ty n : Nat} {x x' : Value} {h : Hp} {e : Env} {w : World} {ts : List TypeId} {xs : List Value} (r : Rel P h e w) (hx : RV h.next e x x') (ho : evLen P h t x = some n) :
    (Builtin.len_ (t :: ts).toArray ty (x' :: xs).toArray).run P w = .ok (.int .i64 (n : Int)) w := by
  unfold evLen at ho
  split at ho
  · rename_i kt et hu
    cases ho
    have hx' := hx.map_inv
    subst hx'
    simp [Builtin.len_, Sem.run_bind, und hu, Sem.run_pure, goInt]
  · rename_i kt et m hu
    have hx' := hx.map_inv
    subst hx'
    split at ho
    · rename_i es ck hg
      cases ho
      obtain ⟨_, es', hl1, hl2⟩ := r.lies _ _ hg
      have hsz : es'.size = es.length := by rw [← Array.length_toList, hl2.ent]; simp
      simp [Builtin.len_, Sem.run_bind, und hu, Sem.run_pure, goInt, run_getMap hl1, hsz]
    · cases ho
  · rename_i s hu
    cases ho
    have hx' : x' = .string s := by have := hx.eq; simpa [conc] using this
    subst hx'
    simp [Builtin.len_, Sem.run_bind, und hu, Sem.run_pure, goInt]
  · rename_i m el hu
    cases ho
    simp [Builtin.len_, Sem.run_bind, und hu, Sem.run_pure, goInt]
  · rename_i el a m c hu
    cases ho
    obtain ⟨_, rfl⟩ := hx.slice_inv
    simp [Builtin.len_, Sem.run_bind, und hu, Sem.run_pure, goInt]
  · cases ho

theorem evBuiltin_ok {h h' : Hp} {e : Env} {w : World} (r : Rel P h e w) {b : Builtin} {ts : List TypeId} {args args' : List Value} {v : Value} (hl : RL h.next e args args') (ho : evBuiltin P h b ts args = some (v, h'))
    (ty : TypeId) (consts : Array Bool) : Does P (builtin b ts.toArray ty consts args'.toArray) h e w v h' := by
  have hcons : ∀ {x : Value} {xs : List Value}, args = x :: xs → ∃ x' xs', args' = x' :: xs' ∧ RV h.next e x x' ∧ RL h.next e xs xs' := by
    rintro x xs rfl
    refine ⟨conc e x, xs.map (conc e), by rw [hl.2]; rfl, ⟨hl.1 x (by simp), rfl⟩, ⟨fun v hv => hl.1 v (by simp [hv]), rfl⟩⟩
  unfold evBuiltin at ho
  split at ho
  · -- len
    rename_i t ts x xs
    obtain ⟨x', xs', rfl, hx, _⟩ := hcons rfl
    split at ho
    · cases ho
    · rename_i n hn
      cases ho
      exact (DoesV.still r (evLen_ok r hx hn) RV.int).does
  · -- cap
    rename_i t ts x xs
    obtain ⟨x', xs', rfl, hx, _⟩ := hcons rfl
    split at ho
    · rename_i el a n c hu
      obtain ⟨_, rfl⟩ := hx.slice_inv
      cases hop : Nat.ble OPEN c with
      | true => rw [hop] at ho; cases ho
      | false =>
        rw [hop] at ho
        cases ho
        have hop : ¬ OPEN ≤ c := fun hc => by rw [← Nat.ble_eq, hop] at hc; cases hc
        have hcap : cCap e a c = c := by cases a <;> simp [cCap, hop]
        refine (DoesV.still (v' := .int .i64 (c : Int)) r ?_ RV.int).does
        simp [Builtin.cap_, Sem.run_bind, und hu, Sem.run_pure, goInt, hcap]
    · cases ho
  · -- append
    rename_i t t' ts s x xs
    obtain ⟨s', xs', rfl, hs, hl2⟩ := hcons rfl
    have hx : ∃ x' xs'', xs' = x' :: xs'' ∧ RV h.next e x x' := ⟨conc e x, xs.map (conc e), hl2.2, ⟨hl2.1 x (by simp), rfl⟩⟩
    obtain ⟨x', xs'', rfl, hx⟩ := hx
    obtain ⟨e', w', v', h1, h2, h3, h4⟩ := evAppend_ok (ty := ty) (ts := ts) (xs := xs'') r hs hx ho
    exact DoesV.does ⟨e', w', v', h1, h2, h3, h4⟩
  · -- delete
    rename_i t ts m k xs
    obtain ⟨m', xs', rfl, hm, hl2⟩ := hcons rfl
    have hk : ∃ k' xs'', xs' = k' :: xs'' ∧ RV h.next e k k' := ⟨conc e k, xs.map (conc e), hl2.2, ⟨hl2.1 k (by simp), rfl⟩⟩
    obtain ⟨k', xs'', rfl, hk⟩ := hk
    exact (evDelete_ok r hm hk ho).does
  · -- max
    rename_i k x k' y
    cases ho
    have : args' = [.int k x, .int k' y] := by rw [hl.2]; rfl
    subst this
    refine (DoesV.still (v' := .int k (if y > x then y else x)) r ?_ RV.int).does
    simp [Builtin.max_, Builtin.max2, Sem.run_pure]
  · -- min
    rename_i k x k' y
    cases ho
    have : args' = [.int k x, .int k' y] := by rw [hl.2]; rfl
    subst this
    refine (DoesV.still (v' := .int k (if y < x then y else x)) r ?_ RV.int).does
    simp [Builtin.min_, Builtin.min2, Sem.run_pure]
  · -- clear
    rename_i t ts x xs
    obtain ⟨x', xs', rfl, hx, _⟩ := hcons rfl
    split at ho
    · rename_i el a n c hu
      obtain ⟨_, rfl⟩ := hx.slice_inv
      cases h0 : Nat.beq n 0 with
      | true =>
        rw [h0] at ho
        cases ho
        have h0 := Nat.eq_of_beq_eq_true h0
        subst h0
        refine (DoesV.still (v' := .tuple #[]) r ?_ RV.unit).does
        simp [Builtin.clear_, Sem.run_bind, und hu, Sem.run_pure]
      | false =>
        rw [h0, cond_false] at ho
        have h0 : n ≠ 0 := by rintro rfl; simp at h0
        split at ho
        · rename_i z hz
          split at ho
          · cases ho
          · rename_i hp hwr
            cases ho
            obtain ⟨zv, hz1, hz2, hz3⟩ := zeroL_all hz
            obtain ⟨w', h1, h2, h3, h4⟩ := wr_ok r hwr (us := repeatL z n) (RC.plain (fun x hx => hz3 x (repeatL_mem hx)) _ _)
            refine DoesV.does ⟨e, w', .tuple #[], ?_, h2, h3, RV.unit⟩
            have hzc : (Builtin.zeroCells zv.cells n).toList = repeatL z n := by rw [zeroCells_toList, hz2]
            unfold Builtin.clear_
            simp only [List.getElem?_toArray, List.getElem?_cons_zero, Sem.run_bind, und hu, Result.andThen_ok, Option.map_some]
            simp only [Sem.run_bind, hz1, Result.andThen_ok, hzc, h1, Sem.run_pure]
        · cases ho
    · rename_i el n c hu
      obtain ⟨_, rfl⟩ := hx.slice_inv
      cases ho
      refine (DoesV.still (v' := .tuple #[]) r ?_ RV.unit).does
      simp [Builtin.clear_, Sem.run_bind, und hu, Sem.run_pure]
    · cases ho
  · cases ho

theorem conc_int {e : Env} {v : Value} {k : IntKind} {i : Int} (hv : ∀ k a b, v ≠ .complex k a b) (h : conc e v = .int k i) : v = .int k i := by
  cases v <;> first | exact h | (simp [conc] at h; done) | (simp [conc] at h; exact h) | exact absurd rfl (hv _ _ _)
theorem conc_string {e : Env} {v : Value} {s : ByteArray} (h : conc e v = .string s) : v = .string s := by
  cases v <;> first | exact h | (simp [conc] at h; done)
theorem conc_float {e : Env} {v : Value} {k : FloatKind} {b : Nat} (h : conc e v = .float k b) : v = .float k b := by
  cases v <;> first | exact h | (simp [conc] at h; done)
theorem conc_complex {e : Env} {v : Value} {k : FloatKind} {a b : Nat} (h : conc e v = .complex k a b) : False := by
  cases v <;> (simp [conc] at h; done)
theorem evEq_shape {t : TypeId} {u u' : Value} {b : Bool} (h : evEq P t u u' = some b) :
    (∀ k i k' j, ¬ (u = .float k i ∧ u' = .float k' j)) ∧ ((∀ k a b, u ≠ .complex k a b) ∧ (∀ k a b, u' ≠ .complex k a b)) := by
  constructor
  · rintro k i k' j ⟨rfl, rfl⟩
    simp [evEq, eqCell] at h
  · constructor
    · rintro k a b rfl
      simp [evEq, eqCell] at h
    · rintro k a b rfl
      cases u <;> simp [evEq, eqCell] at h
theorem binOp_eq {op : BinOp} (hop : op = .eql ∨ op = .neq) (t : TypeId) (x y : Value) (h1 : ∀ k i k' j, ¬ (x = .int k i ∧ y = .int k' j)) (h2 : ∀ s s', ¬ (x = .string s ∧ y = .string s'))
    (h3 : ∀ k i k' j, ¬ (x = .float k i ∧ y = .float k' j)) (h4 : ∀ k i i' k' j j', ¬ (x = .complex k i i' ∧ y = .complex k' j j')) :
    binOp op t x y = (do let b ← Op.equal t x y; pure (.bool (if op = .eql then b else !b))) := by
  rcases hop with rfl | rfl
  all_goals
    unfold binOp
    split
    all_goals first
      | exact absurd ⟨rfl, rfl⟩ (h1 _ _ _ _)
      | exact absurd ⟨rfl, rfl⟩ (h2 _ _)
      | exact absurd ⟨rfl, rfl⟩ (h3 _ _ _ _)
      | exact absurd ⟨rfl, rfl⟩ (h4 _ _ _ _ _ _)
      | rfl
      | contradiction
      | skip

section
variable {call : CallF} {fr : Fr} {h h' : Hp} {e : Env} {w : World} {a : Act} {v : Value} {o : Oper}
theorem does_binOp {op : BinOp} {t yt : TypeId} {x y : Operand} (hop : o.op = .binOp op t x y yt) (r : Rel P h e w) (hx : LK h.next e fr a x) (hy : LK h.next e fr a y)
    (ho : oBinOp op t x y yt P call fr h = some (v, h')) : Does P (execOp a.eval o) h e w v h' := by
  unfold oBinOp at ho
  split at ho
  case h_2 => cases ho
  rename_i u u' hu hu'
  split at ho
  · cases ho
  rename_i b hb
  cases ho
  have hxu := hx _ hu
  have hyu := hy _ hu'
  have key : ∀ {v'}, (eqGuard op t x y (a.eval x) (a.eval y)).run P w = .ok () w → (binOp op t (a.eval x) (a.eval y)).run P w = .ok v' w → RV h.next e v v' → Does P (execOp a.eval o) h e w v h := by
    intro v' h1 h2 h3
    refine Does.still r (v' := v') ?_ h3
    simp only [execOp, hop]
    refine run_v ?_
    simp only [Sem.run_bind, h1, Result.andThen_ok, h2]
  unfold evBin at hb
  split at hb
  · rename_i k i k' j
    have h1 := hxu.int_inv
    have h2 := hyu.int_inv
    obtain ⟨h3, h4⟩ := evInt_ok hb t
    refine key (v' := v) ?_ (by rw [h1, h2, h3]; rfl) (RV.scal h4)
    rw [h1, h2]
    cases op <;> rfl
  · rename_i s s'
    have h1 : a.eval x = .string s := by have := hxu.eq; simpa [conc] using this
    have h2 : a.eval y = .string s' := by have := hyu.eq; simpa [conc] using this
    refine key (v' := v) ?_ (by rw [h1, h2]; rw [← evStr_ok (P := P) hb w]; cases op <;> rfl) ?_
    · rw [h1, h2]
      cases op <;> rfl
    · unfold evStr at hb
      split at hb <;> first | (cases hb; exact RV.bool) | (cases hb; done) | skip
      cases hk : Nat.ble (s.size.add s'.size) 1073741824 with
      | true => rw [hk] at hb; cases hb; exact RV.string
      | false => rw [hk] at hb; cases hb
  · rename_i hni hns
    have hbin : ∀ {op : BinOp} {bb : Bool}, op = .eql ∨ op = .neq → evEq P t u u' = some bb → (binOp op t (a.eval x) (a.eval y)).run P w = .ok (.bool (if op = .eql then bb else !bb)) w := by
      intro op bb hop hq
      have he := (evEq_ok hxu hyu hq op x y w).1
      obtain ⟨q1, q2⟩ := evEq_shape hq
      have hx' := hxu.eq
      have hy' := hyu.eq
      rw [binOp_eq hop _ _ _ (fun k i k' j hc => hni k i k' j (conc_int q2.1 (hx'.symm.trans hc.1)) (conc_int q2.2 (hy'.symm.trans hc.2)))
        (fun s s' hc => hns s s' (conc_string (hx'.symm.trans hc.1)) (conc_string (hy'.symm.trans hc.2)))
        (fun k i k' j hc => q1 k i k' j ⟨conc_float (hx'.symm.trans hc.1), conc_float (hy'.symm.trans hc.2)⟩)
        (fun k i i' k' j j' hc => conc_complex (hx'.symm.trans hc.1))]
      simp only [Sem.run_bind, he, Result.andThen_ok, Sem.run_pure]
    split at hb
    · split at hb
      · cases hb
      · rename_i bb hq
        cases hb
        exact key (evEq_ok hxu hyu hq _ x y w).2 (hbin (.inl rfl) hq) RV.bool
    · split at hb
      · cases hb
      · rename_i bb hq
        cases hb
        exact key (evEq_ok hxu hyu hq _ x y w).2 (hbin (.inr rfl) hq) RV.bool
    · cases hb
end
end Go.Ev
namespace Go.Ev
variable {P : Program}

/-- no fence; in a round of a range over a function, or in none -/
def WF (ro : Option Nat) : Fence := { Fence.wide with round := ro }
theorem WF.fn (ro : Option Nat) (f : FuncId) : (WF ro).fn f := trivial
theorem WF.depth (ro : Option Nat) {p : Prop} : (WF ro).depth.isSome = true → p := fun h => by cases h
theorem WF.calls {ro : Option Nat} {n : Nat} {f : FuncId} {args : Array Value} {w : World} {R : Ending → World → Prop} : CallsIn (WF ro) n P f args w R ↔ Calls P f args w R :=
  callsIn_wide (n := n)

/-- what a call does in the world -/
def CallsTo (P : Program) (f : FuncId) (args' : List Value) (h : Hp) (e : Env) (w : World) (v : Value) (h' : Hp) : Prop :=
  Calls P f args'.toArray w fun en w' => ∃ e' v', en = .returned v' ∧ Rel P h' e' w' ∧ Stp h e w h' e' w' ∧ RV h'.next e' v v'
/-- what a yield does in the world -/
def YieldsTo (P : Program) (l : Nat) (args' : List Value) (h : Hp) (e : Env) (w : World) (v : Value) (h' : Hp) : Prop :=
  ∃ fn tmps assign body, (Instr.yield l args'.toArray).run P w = .ok (.round l fn tmps assign body) w ∧ ∀ n, RoundIn Fence.wide n P l fn tmps assign body w fun en w' =>
    ∃ e' v', en = .returned v' ∧ Rel P h' e' w' ∧ Stp h e w h' e' w' ∧ RV h'.next e' v v'
structure CallOK (P : Program) (call : CallF) : Prop where
  func : ∀ f args h v h', call (.func f) args h = some (v, h') →
    (∃ fn c, P.funcs[f]? = some fn ∧ fn.body = some c ∧ fn.name ≠ "runtime.NumGoroutine") ∧
    ∀ e w args', Rel P h e w → RL h.next e args args' → CallsTo P f args' h e w v h'
  yield : ∀ l args h v h', call (.yield l) args h = some (v, h') → ∀ e w args', Rel P h e w → RL h.next e args args' → YieldsTo P (e.phi l) args' h e w v h'

/-- what an operation does in the world -/
def OpDoes (P : Program) (o : Oper) (a : Act) (h : Hp) (e : Env) (w : World) (v : Value) (h' : Hp) : Prop :=
  ∀ (ro : Option Nat) (n : Nat) (K : Act → World → Prop) (Q : Exit → Act → World → Prop), (∀ e' w' v', Rel P h' e' w' → Stp h e w h' e' w' → RV h'.next e' v v' → K (a.put o.dst v') w') → o.wpIn (WF ro) n P a w K Q

section
variable {call : CallF} {fr : Fr} {h h' : Hp} {e : Env} {w : World} {a : Act} {v : Value} {o : Oper}

theorem Does.op (d : Does P (execOp a.eval o) h e w v h') (hnd : ∀ c, o.op ≠ .defer c) : OpDoes P o a h e w v h' := by
  intro ro n K Q hk
  obtain ⟨e', w', v', h1, h2, h3, h4⟩ := d
  have := hk e' w' v' h2 h3 h4
  unfold Oper.wpIn
  refine ⟨fun f _ => WF.fn ro f, ?_⟩
  rw [Oper.semAt_eq _ _ _ hnd]
  rcases h1 with h1 | ⟨h1, rfl⟩ <;> rw [h1]
  · exact this
  · exact this

theorem callFunc_run {f : FuncId} {fn : Func} {c : Code} (hf : P.funcs[f]? = some fn) (hb : fn.body = some c) (hn : fn.name ≠ "runtime.NumGoroutine") (args : Array Value) (w : World) :
    (callFunc f args).run P w = .ok (.enter f args) w := by
  have hn' : (fn.name == "runtime.NumGoroutine") = false := by simpa using hn
  simp only [callFunc, program, Sem.run_bind, Sem.run, Sem.run_pure, Result.andThen_ok, hf, hn', Bool.false_eq_true, if_false, hb, Option.isNone_some]

theorem methodOf_run {t : TypeId} {name : String} {f : FuncId} (h : methodOf P t name = some f) (v : Value) (n : Nat) (hn : 0 < n) (w : World) : (method n t v name).run P w = .ok (f, v) w := by
  unfold methodOf at h
  split at h
  · cases h
  · rename_i i hi
    split at h
    · cases h
    · rename_i m hm
      rw [Array.find?_toList] at hm
      have hti : (typeInfo t).run P w = .ok i w := by simp [typeInfo, program, Sem.run_bind, Sem.run, hi]
      obtain ⟨k, rfl⟩ : ∃ k, n = k + 1 := ⟨n - 1, by omega⟩
      split at h
      · cases h
      · rename_i g d hno hp hf hu
        cases h
        simp only [method, Sem.run_bind, hti, Result.andThen_ok, hm, hp, follow, Sem.run_pure, hf, receiverAt, und hu]
        cases d <;> first | exact (hno _ rfl).elim | rfl
      · rename_i g el hp hf hu
        cases h
        simp only [method, Sem.run_bind, hti, Result.andThen_ok, hm, hp, follow, Sem.run_pure, hf, receiverAt, und hu, Place.get]
      · cases h

theorem does_call {c : Call} (hc : CallOK P call) (hop : o.op = .call c) (r : Rel P h e w) (hx : ∀ x ∈ c.operands, LK h.next e fr a x)
    (ho : oCall c P call fr h = some (v, h')) : OpDoes P o a h e w v h' := by
  have hnd : ∀ c, o.op ≠ .defer c := fun c hc => by rw [hop] at hc; cases hc
  unfold oCall evCallee at ho
  split at ho
  · cases ho
  rename_i args hargs
  have hl := lookAll_ok hargs (fun x hxm => hx x (by unfold Call.operands; exact Array.mem_append_right _ (by simpa using hxm)))
  have hmap : (c.args.map a.eval).toList = c.args.toList.map a.eval := by simp
  -- a function is entered
  have enter : ∀ {g : FuncId} {gargs : List Value} {gargs' : Array Value}, (execOp a.eval o).run P w = .ok (.enter g gargs') w → CallsTo P g gargs'.toList h e w v h' → OpDoes P o a h e w v h' := by
    intro g _ gargs' hrun hcalls ro n K Q hK
    unfold Oper.wpIn
    refine ⟨fun f _ => WF.fn ro f, ?_⟩
    rw [Oper.semAt_eq _ _ _ hnd, hrun, Oper.uponIn_enter]
    refine ⟨WF.depth ro, WF.calls.2 ?_⟩
    unfold CallsTo at hcalls
    rw [Array.toArray_toList] at hcalls
    refine Calls.mono hcalls ?_
    rintro en w' ⟨e', v', rfl, k1, k2, k3⟩
    exact hK e' w' v' k1 k2 k3
  split at ho
  · rename_i b hb
    refine Does.op ?_ hnd
    have : execOp a.eval o = builtin b c.argTypes o.type (c.args.map fun | .const _ => true | _ => false) (c.args.map a.eval) := by
      simp only [execOp, hop, resolve, hb]
      rfl
    rw [this]
    have h2 := evBuiltin_ok r hl ho o.type (c.args.map fun | .const _ => true | _ => false)
    rw [← hmap] at h2
    simpa only [Array.toArray_toList] using h2
  · rename_i f hf
    split at ho
    · rename_i g first captured hg
      have hk := hx f (by unfold Call.operands; simp [hf]) _ hg
      have hu := hk.under
      simp only [under, underA_iff] at hu
      have hev : a.eval f = .func (.func g) (concA e first) (concA e captured) := by have := hk.eq; simpa [conc, cFn] using this
      obtain ⟨⟨fn, cd, h1, h2, h3⟩, h4⟩ := hc.func _ _ _ _ _ ho
      have hrun : (execOp a.eval o).run P w = .ok (.enter g (concA e first ++ c.args.map a.eval ++ concA e captured)) w := by
        have : execOp a.eval o = callFunc g (concA e first ++ c.args.map a.eval ++ concA e captured) := by
          simp only [execOp, hop, resolve, hf, hev, Deferred.ofValue]
          rfl
        rw [this]
        exact callFunc_run h1 h2 h3 _ w
      have hargs' : RL h.next e (first.toList ++ (args ++ captured.toList)) (concA e first ++ c.args.map a.eval ++ concA e captured).toList := by
        rw [Array.toList_append, Array.toList_append, List.append_assoc, hmap]
        refine RL.append ⟨hu.2.1, by rw [concA_map]; simp⟩ (RL.append hl ⟨hu.2.2, by rw [concA_map]; simp⟩)
      exact enter (gargs := []) hrun (h4 e w _ r hargs')
    · rename_i l first captured hg
      have hk := hx f (by unfold Call.operands; simp [hf]) _ hg
      have hu := hk.under
      simp only [under, underA_iff] at hu
      have hev : a.eval f = .func (.yield (e.phi l)) (concA e first) (concA e captured) := by have := hk.eq; simpa [conc, cFn] using this
      have hargs' : RL h.next e (first.toList ++ args) (concA e first ++ c.args.map a.eval).toList := by
        rw [Array.toList_append, hmap]
        exact RL.append ⟨hu.2.1, by rw [concA_map]; simp⟩ hl
      obtain ⟨fn, tmps, assign, body, hy, hround⟩ := hc.yield _ _ _ _ _ ho e w _ r hargs'
      rw [Array.toArray_toList] at hy
      have hrun : (execOp a.eval o).run P w = .ok (.round (e.phi l) fn tmps assign body) w := by
        have : execOp a.eval o = Instr.yield (e.phi l) (concA e first ++ c.args.map a.eval) := by
          simp only [execOp, hop, resolve, hf, hev, Deferred.ofValue]
          rfl
        rw [this]
        exact hy
      intro ro n K Q hK
      unfold Oper.wpIn
      refine ⟨fun f _ => WF.fn ro f, ?_⟩
      rw [Oper.semAt_eq _ _ _ hnd, hrun, Oper.uponIn_round]
      refine ⟨WF.depth ro, ?_⟩
      have hround' : RoundIn (WF ro) (n - 1) P (e.phi l) fn tmps assign body w _ := hround (n - 1)
      refine RoundIn.mono hround' ?_
      rintro en w' ⟨e', v', rfl, k1, k2, k3⟩
      exact hK e' w' v' k1 k2 k3
    · cases ho
  · rename_i rc name hf
    split at ho
    · rename_i t u hg
      split at ho
      · cases ho
      · rename_i g hm
        have hk := hx rc (by unfold Call.operands; simp [hf]) _ hg
        have hu := hk.under
        simp only [under] at hu
        have hev : a.eval rc = .iface t (conc e u) := by have := hk.eq; simpa [conc] using this
        obtain ⟨⟨fn, cd, h1, h2, h3⟩, h4⟩ := hc.func _ _ _ _ _ ho
        have hrun : (execOp a.eval o).run P w = .ok (.enter g (#[conc e u] ++ c.args.map a.eval)) w := by
          have hx1 : (#[Value.iface t (conc e u)] ++ c.args.map a.eval).extract 1 (#[Value.iface t (conc e u)] ++ c.args.map a.eval).size = c.args.map a.eval := by
            apply Array.ext'
            simp [List.take_of_length_le]
          have : (execOp a.eval o).run P w = (callMethod (.iface t (conc e u)) name (c.args.map a.eval)).run P w := by
            simp only [execOp, hop, resolve, hf, hev]
            show (invoke (.fn (.method name) #[]) (#[Value.iface t (conc e u)] ++ c.args.map a.eval)).run P w = _
            have h0 : (#[Value.iface t (conc e u)] ++ c.args.map a.eval)[0]? = some (Value.iface t (conc e u)) := by
              rw [Array.getElem?_append_left (by simp)]
              rfl
            simp only [invoke, h0, hx1]
          rw [this]
          have hp : (Sem.program (.pure) : Sem Program).run P w = .ok P w := rfl
          simp only [callMethod, Sem.run_bind, program, hp, Result.andThen_ok]
          rw [methodOf_run hm _ _ (by
            unfold methodOf at hm
            split at hm
            · cases hm
            · rename_i i hi
              have : 0 < Made.depth := by decide
              omega)]
          simp only [Result.andThen_ok]
          exact callFunc_run h1 h2 h3 _ w
        have hargs' : RL h.next e (u :: args) (#[conc e u] ++ c.args.map a.eval).toList := by
          rw [Array.toList_append, hmap]
          exact RL.cons ⟨hu, rfl⟩ hl
        exact enter (gargs := []) hrun (h4 e w _ r hargs')
    · cases ho

end
end Go.Ev
namespace Go.Ev
variable {P : Program}
section
variable {call : CallF} {fr : Fr} {h h' : Hp} {e : Env} {w : World} {a : Act} {v : Value} {o : Oper}

/-- each operation -/
theorem evOp_ok (hc : CallOK P call) (r : Rel P h e w) (hx : ∀ x ∈ o.op.operands, LK h.next e fr a x) (ho : evOp P call o fr h = some (v, h')) : OpDoes P o a h e w v h' := by
  have m1 : ∀ {x : Operand}, o.op.operands = #[x] → LK h.next e fr a x := fun hh => hx _ (by rw [hh]; simp)
  have m2 : ∀ {x y : Operand}, o.op.operands = #[x, y] → LK h.next e fr a x ∧ LK h.next e fr a y := fun hh => ⟨hx _ (by rw [hh]; simp), hx _ (by rw [hh]; simp)⟩
  unfold evOp at ho
  cases hop : o.op with
  | move x => rw [hop] at ho; exact (does_move (call := call) (.inl hop) r (m1 (by rw [hop]; rfl)) ho).op (fun c hc => by rw [hop] at hc; cases hc)
  | assign x => rw [hop] at ho; exact (does_move (call := call) (.inr hop) r (m1 (by rw [hop]; rfl)) ho).op (fun c hc => by rw [hop] at hc; cases hc)
  | pick c x y => rw [hop] at ho; exact (does_pick (call := call) hop r (hx _ (by rw [hop]; simp [Op.operands])) (hx _ (by rw [hop]; simp [Op.operands])) (hx _ (by rw [hop]; simp [Op.operands])) ho).op (fun c hc => by rw [hop] at hc; cases hc)
  | alloc t => rw [hop] at ho; exact (does_alloc (fr := fr) (call := call) hop r ho).op (fun c hc => by rw [hop] at hc; cases hc)
  | box t x => rw [hop] at ho; exact (does_box (call := call) hop r (m1 (by rw [hop]; rfl)) ho).op (fun c hc => by rw [hop] at hc; cases hc)
  | build t ps => rw [hop] at ho; exact (does_build (call := call) hop r (fun x hxm => hx _ (by rw [hop]; simp [Op.operands]; exact ⟨x.1, by simpa using hxm⟩)) ho).op (fun c hc => by rw [hop] at hc; cases hc)
  | buildSlice t n ps => rw [hop] at ho; exact (does_buildSlice (call := call) hop r (fun x hxm => hx _ (by rw [hop]; simp [Op.operands]; exact ⟨x.1, by simpa using hxm⟩)) ho).op (fun c hc => by rw [hop] at hc; cases hc)
  | load t x => rw [hop] at ho; exact (does_load (call := call) hop r (m1 (by rw [hop]; rfl)) ho).op (fun c hc => by rw [hop] at hc; cases hc)
  | store t x y => rw [hop] at ho; exact (does_store (call := call) hop r (m2 (by rw [hop]; rfl)).1 (m2 (by rw [hop]; rfl)).2 ho).op (fun c hc => by rw [hop] at hc; cases hc)
  | nilCheck x => rw [hop] at ho; exact (does_nilCheck (call := call) hop r (m1 (by rw [hop]; rfl)) ho).op (fun c hc => by rw [hop] at hc; cases hc)
  | binOp op t x y yt => rw [hop] at ho; exact (does_binOp (call := call) hop r (m2 (by rw [hop]; rfl)).1 (m2 (by rw [hop]; rfl)).2 ho).op (fun c hc => by rw [hop] at hc; cases hc)
  | unOp op t x => rw [hop] at ho; exact (does_unOp (call := call) hop r (m1 (by rw [hop]; rfl)) ho).op (fun c hc => by rw [hop] at hc; cases hc)
  | convert s d x => rw [hop] at ho; exact (does_convert (call := call) hop r (m1 (by rw [hop]; rfl)) ho).op (fun c hc => by rw [hop] at hc; cases hc)
  | makeInterface t x => rw [hop] at ho; exact (does_makeInterface (call := call) hop r (m1 (by rw [hop]; rfl)) ho).op (fun c hc => by rw [hop] at hc; cases hc)
  | makeFunc fn f c => rw [hop] at ho; exact (does_makeFunc (call := call) hop r (fun x hxm => hx _ (by rw [hop]; simp [Op.operands]; exact .inl (by simpa using hxm))) (fun x hxm => hx _ (by rw [hop]; simp [Op.operands]; exact .inr (by simpa using hxm))) ho).op (fun c hc => by rw [hop] at hc; cases hc)
  | makeSlice t x y => rw [hop] at ho; exact (does_makeSlice (call := call) hop r (m2 (by rw [hop]; rfl)).1 (m2 (by rw [hop]; rfl)).2 ho).op (fun c hc => by rw [hop] at hc; cases hc)
  | slice t x lo hi mx => rw [hop] at ho; exact (does_slice (call := call) hop r (hx _ (by rw [hop]; simp [Op.operands])) (fun y hy => hx _ (by rw [hop, hy]; simp [Op.operands])) (fun y hy => hx _ (by rw [hop, hy]; simp [Op.operands])) (fun y hy => hx _ (by rw [hop, hy]; simp [Op.operands])) ho).op (fun c hc => by rw [hop] at hc; cases hc)
  | fieldAddr s x i => rw [hop] at ho; exact (does_fieldAddr (call := call) hop r (m1 (by rw [hop]; rfl)) ho).op (fun c hc => by rw [hop] at hc; cases hc)
  | field t x i => rw [hop] at ho; exact (does_field (call := call) hop r (m1 (by rw [hop]; rfl)) ho).op (fun c hc => by rw [hop] at hc; cases hc)
  | indexAddr t x i => rw [hop] at ho; exact (does_indexAddr (call := call) hop r (m2 (by rw [hop]; rfl)).1 (m2 (by rw [hop]; rfl)).2 ho).op (fun c hc => by rw [hop] at hc; cases hc)
  | index t x i => rw [hop] at ho; exact (does_index (call := call) hop r (m2 (by rw [hop]; rfl)).1 (m2 (by rw [hop]; rfl)).2 ho).op (fun c hc => by rw [hop] at hc; cases hc)
  | extract x i => rw [hop] at ho; exact (does_extract (call := call) hop r (m1 (by rw [hop]; rfl)) ho).op (fun c hc => by rw [hop] at hc; cases hc)
  | makeMap t rs => rw [hop] at ho; exact (does_makeMap (call := call) hop r (fun y hy => hx _ (by rw [hop, hy]; simp [Op.operands])) ho).op (fun c hc => by rw [hop] at hc; cases hc)
  | lookup t x y c => rw [hop] at ho; exact (does_lookup (call := call) hop r (hx _ (by rw [hop]; simp [Op.operands])) (hx _ (by rw [hop]; simp [Op.operands])) ho).op (fun c hc => by rw [hop] at hc; cases hc)
  | mapUpdate t x y z => rw [hop] at ho; exact (does_mapUpdate (call := call) hop r (hx _ (by rw [hop]; simp [Op.operands])) (hx _ (by rw [hop]; simp [Op.operands])) (hx _ (by rw [hop]; simp [Op.operands])) ho).op (fun c hc => by rw [hop] at hc; cases hc)
  | mapEntry t x y => rw [hop] at ho; exact (does_mapEntry (call := call) hop r (hx _ (by rw [hop]; simp [Op.operands])) (hx _ (by rw [hop]; simp [Op.operands])) ho).op (fun c hc => by rw [hop] at hc; cases hc)
  | entryStore t x y z => rw [hop] at ho; exact (does_entryStore (call := call) hop r (hx _ (by rw [hop]; simp [Op.operands])) (hx _ (by rw [hop]; simp [Op.operands])) (hx _ (by rw [hop]; simp [Op.operands])) ho).op (fun c hc => by rw [hop] at hc; cases hc)
  | range t x => rw [hop] at ho; exact (does_range (call := call) hop r (hx _ (by rw [hop]; simp [Op.operands])) ho).op (fun c hc => by rw [hop] at hc; cases hc)
  | next x b => rw [hop] at ho; exact (does_next (call := call) hop r (hx _ (by rw [hop]; simp [Op.operands])) ho).op (fun c hc => by rw [hop] at hc; cases hc)
  | entry x => rw [hop] at ho; exact (does_entry (call := call) hop r (hx _ (by rw [hop]; simp [Op.operands])) ho).op (fun c hc => by rw [hop] at hc; cases hc)
  | typeAssert x xt t c => rw [hop] at ho; exact (does_typeAssert (call := call) hop r (hx _ (by rw [hop]; simp [Op.operands])) ho).op (fun c hc => by rw [hop] at hc; cases hc)
  | call c => rw [hop] at ho; exact does_call hc hop r (fun x hxm => hx _ (by rw [hop]; exact hxm)) ho
  | _ => rw [hop] at ho; cases ho

end
end Go.Ev
namespace Go.Ev
variable {P : Program}

/-- what the looked-at places of the frame hold -/
def Sees (n : Nat) (e : Env) (fr : Fr) (a : Act) (t : Tmp) : Prop := ∀ v, fr.get t = some v → ∃ v', a.tmps[t]? = some v' ∧ RV n e v v'

theorem LK.of {n : Nat} {e : Env} {fr : Fr} {a : Act} {x : Operand} (g : Glob n e) (h : ∀ t, x = .tmp t → Sees n e fr a t) : LK n e fr a x := by
  cases x with
  | tmp t =>
    intro v hv
    obtain ⟨v', h1, h2⟩ := h t rfl v hv
    have : a.eval (.tmp t) = v' := by simp [Act.eval, h1]
    rw [this]; exact h2
  | _ =>
    intro v hv
    have hr : RF n e .leaf a := ⟨g, fun t v hv => by cases hv⟩
    exact hr.look _ v hv

theorem wanted_ok {ops : Array Oper} {o : Oper} {n : Nat} {e : Env} {fr : Fr} {a : Act} {b : Bool} (hs : ∀ t ∈ o.looksAt ops, Sees n e fr a t) (h : wantedE ops.toList o fr = some b) :
    Region.wanted o (yielded ops a.tmps) = b := by
  unfold wantedE at h
  unfold Region.wanted
  cases hg : o.guard with
  | none =>
    rw [hg] at h
    cases h; rfl
  | some g =>
    rw [hg] at h
    have h : wGuard g ops.toList fr = some b := h
    unfold wGuard at h
    split at h
    case h_2 => cases h
    rename_i d op ty pos af gu hd
    rw [Array.getElem?_toList] at hd
    have hlook : d ∈ o.looksAt ops := by
      unfold Oper.looksAt
      obtain ⟨j, want⟩ := g
      simp only [hg]
      refine List.mem_append_right _ ?_
      simp only at hd
      simp [hd]
    split at h
    · rename_i v hv
      obtain ⟨v', h1, h2⟩ := hs d hlook v hv
      unfold wBool at h
      split at h
      · rename_i bb
        have : v' = .bool bb := by have := h2.eq; simpa [conc] using this
        subst this
        have hy : yielded ops a.tmps g.1 = some bb := by unfold yielded; rw [hd]; simp only [Option.bind_some, h1]
        simp only [hy]
        cases h
        cases bb <;> cases hw : g.2 <;> simp
      · rename_i vs
        cases h
        have : v' = .tuple (concA e vs) := by have := h2.eq; simpa [conc] using this
        subst this
        have hy : yielded ops a.tmps g.1 = none := by unfold yielded; rw [hd]; simp only [Option.bind_some, h1]
        simp only [hy]
        simp
      · cases h
    · cases h

theorem RV.undef {n : Nat} {e : Env} : RV n e Go.undef Go.undef := by
  have : Go.undef = .tuple #[] := rfl
  rw [this]; exact RV.unit

theorem Act.put_size (a : Act) (d : Option Tmp) (v : Value) : (a.put d v).tmps.size = a.tmps.size := by
  cases d <;> simp [Act.put]
theorem Act.put_defers' (a : Act) (d : Option Tmp) (v : Value) : (a.put d v).defers = a.defers := by
  cases d <;> rfl

theorem evOps_cons (call : CallF) (all : List Oper) (o : Oper) (l : List Oper) (fr : Fr) (h : Hp) : evOps P call all (o :: l) fr h =
    match wantedE all o fr with
    | none => none
    | some false => evOps P call all l (putT fr o.dst undef) h
    | some true => match evOp P call o fr h with
      | none => none
      | some (v, h') => evOps P call all l (putT fr o.dst v) h' := by
  unfold evOps
  cases hw : wantedE all o fr with
  | none => simp only [hw]; rfl
  | some b =>
    cases b with
    | false => simp only [hw]; rfl
    | true =>
      simp only [hw]
      cases he : evOp P call o fr h with
      | none => simp only [stepB, he]
      | some p => simp only [stepB, he]

theorem dstOk_cons {n : Nat} {o : Oper} {l : List Oper} (h : dstOk n (o :: l) = true) : (∀ t, o.dst = some t → t < n) ∧ dstOk n l = true := by
  unfold dstOk at *
  rw [List.all_cons, Bool.and_eq_true] at h
  refine ⟨fun t ht => ?_, h.2⟩
  rw [ht] at h
  have := h.1
  rwa [Nat.blt_eq] at this

theorem evOps_ok {call : CallF} (hc : CallOK P call) {ops : Array Oper} {Q : Exit → Act → World → Prop} {N : Nat} {ro : Option Nat} {m : Nat} : ∀ (l pre : List Oper), ops.toList = pre ++ l → dstOk N l = true →
    ∀ {fr fr' : Fr} {h h' : Hp} {e : Env} {w : World} {a : Act}, evOps P call ops.toList l fr h = some (fr', h') → Rel P h e w → RF h.next e fr a → N ≤ a.tmps.size →
    (∀ e' w' a', Rel P h' e' w' → Stp h e w h' e' w' → RF h'.next e' fr' a' → a'.tmps.size = a.tmps.size → a'.defers = a.defers → Q .normal a' w') →
    wpOpsIn (WF ro) m P ops Q (List.range' pre.length l.length) a w := by
  intro l
  induction l with
  | nil =>
    intro pre _ _ fr fr' h h' e w a he r hf _ hk
    cases he
    exact hk e w a r (Stp.refl _ _ _) hf rfl rfl
  | cons o l ih =>
    intro pre hpre hd fr fr' h h' e w a he r hf hN hk
    obtain ⟨hd1, hd2⟩ := dstOk_cons hd
    have hi : ops[pre.length]? = some o := by rw [← Array.getElem?_toList, hpre]; simp
    have hpre' : ops.toList = (pre ++ [o]) ++ l := by rw [hpre]; simp
    have hrest : List.range' pre.length (o :: l).length = pre.length :: List.range' (pre ++ [o]).length l.length := by
      rw [List.length_cons, List.range'_succ]; simp
    rw [hrest]
    rw [evOps_cons] at he
    simp only [wpOpsIn, hi]
    split at he
    · cases he
    · rename_i hw
      rw [wanted_ok (fun t _ => hf.vals t) hw, if_neg (by simp)]
      refine ⟨fun f _ => WF.fn ro f, ?_⟩
      refine ih (pre ++ [o]) hpre' hd2 he r (hf.put (fun t ht => Nat.lt_of_lt_of_le (hd1 t ht) hN) RV.undef) (by rw [Act.put_size]; exact hN) ?_
      intro e' w' a' h1 h2 h3 h4 h5
      exact hk e' w' a' h1 h2 h3 (h4.trans (Act.put_size _ _ _)) (h5.trans (Act.put_defers' _ _ _))
    · rename_i hw
      rw [wanted_ok (fun t _ => hf.vals t) hw, if_pos rfl]
      split at he
      · cases he
      · rename_i v h₁ hev
        refine evOp_ok hc r (fun x _ => hf.look x) hev ro m _ _ ?_
        intro e₁ w₁ v' r₁ s₁ hv
        refine ih (pre ++ [o]) hpre' hd2 he r₁ ((hf.mono s₁.next s₁.agree).put (fun t ht => Nat.lt_of_lt_of_le (hd1 t ht) hN) hv) (by rw [Act.put_size]; exact hN) ?_
        intro e' w' a' h1 h2 h3 h4 h5
        exact hk e' w' a' h1 (s₁.trans h2) h3 (h4.trans (Act.put_size _ _ _)) (h5.trans (Act.put_defers' _ _ _))

end Go.Ev
namespace Go.Ev
variable {P : Program}

theorem maskOf_bit (acc : List Nat) (k : Nat) : ∀ es : List Edge, (maskOf acc es).testBit k = true ↔ ∃ e ∈ es, Region.binds .any e = true ∧ (k = e.on ∨ (acc.getD e.on 0).testBit k = true)
  | [] => by simp [maskOf]
  | e :: es => by
    have ih := maskOf_bit acc k es
    unfold maskOf
    cases hb : Region.binds .any e with
    | false =>
      rw [cond_false, ih]
      constructor
      · rintro ⟨x, hx, h⟩; exact ⟨x, List.mem_cons_of_mem _ hx, h⟩
      · rintro ⟨x, hx, h⟩
        rcases List.mem_cons.1 hx with rfl | hx
        · rw [hb] at h; exact absurd h.1 (by simp)
        · exact ⟨x, hx, h⟩
    | true =>
      rw [cond_true]
      have h1 : (Nat.lor (Nat.lor (Nat.pow 2 e.on) (acc.getD e.on 0)) (maskOf acc es)).testBit k = ((Nat.testBit (2 ^ e.on) k || Nat.testBit (acc.getD e.on 0) k) || (maskOf acc es).testBit k) := by
        show ((2 ^ e.on ||| acc.getD e.on 0) ||| maskOf acc es).testBit k = _
        rw [Nat.testBit_or, Nat.testBit_or]
      rw [h1, Bool.or_eq_true, Bool.or_eq_true, ih, Nat.testBit_two_pow]
      constructor
      · rintro ((h | h) | ⟨x, hx, h⟩)
        · exact ⟨e, List.mem_cons_self .., hb, .inl (of_decide_eq_true h).symm⟩
        · exact ⟨e, List.mem_cons_self .., hb, .inr h⟩
        · exact ⟨x, List.mem_cons_of_mem _ hx, h⟩
      · rintro ⟨x, hx, hb', h⟩
        rcases List.mem_cons.1 hx with rfl | hx
        · rcases h with rfl | h
          · exact .inl (.inl (by simp))
          · exact .inl (.inr h)
        · exact .inr ⟨x, hx, hb', h⟩

theorem masks_spec : ∀ (os : List Oper) (acc : List Nat), (masks os acc).length = acc.length + os.length ∧ (∀ i, i < acc.length → (masks os acc)[i]? = acc[i]?) ∧
    ∀ (i : Nat) (o : Oper), os[i]? = some o → (masks os acc)[acc.length + i]? = some (maskOf ((masks os acc).take (acc.length + i)) o.after.toList)
  | [], acc => ⟨by simp [masks], fun i _ => rfl, fun i o h => by simp at h⟩
  | o :: os, acc => by
    obtain ⟨h1, h2, h3⟩ := masks_spec os (acc ++ [maskOf acc o.after.toList])
    have he : masks (o :: os) acc = masks os (acc ++ [maskOf acc o.after.toList]) := rfl
    rw [he]
    refine ⟨by rw [h1]; simp; omega, fun i hi => ?_, fun i x hx => ?_⟩
    · rw [h2 i (by simp; omega), List.getElem?_append_left hi]
    · cases i with
      | zero =>
        simp at hx
        subst hx
        rw [Nat.add_zero, h2 _ (by simp), List.getElem?_append_right (Nat.le_refl _)]
        simp only [Nat.sub_self, List.getElem?_cons_zero]
        congr 2
        refine List.ext_getElem? fun j => ?_
        rw [List.getElem?_take]
        split
        · rename_i hj
          rw [h2 j (by simp; omega), List.getElem?_append_left hj]
        · rename_i hj
          rw [List.getElem?_eq_none (by omega)]
      | succ i =>
        have := h3 i x (by simpa using hx)
        simp only [List.length_append, List.length_cons, List.length_nil] at this
        rw [show acc.length + (i + 1) = acc.length + (0 + 1) + i by omega]
        exact this

def MM (ms : List Nat) (i : Nat) : Nat := ms.getD i 0

structure DrawOK (ops : Array Oper) (ms : List Nat) : Prop where
  on_lt : ∀ (i : Nat) (o : Oper), ops[i]? = some o → ∀ e ∈ o.after, Region.binds .any e = true → e.on < i
  bit : ∀ (i : Nat) (o : Oper), ops[i]? = some o → ∀ k, (MM ms i).testBit k = true ↔ ∃ e ∈ o.after, Region.binds .any e = true ∧ (k = e.on ∨ (MM ms e.on).testBit k = true)
  pair : ∀ (i k : Nat) (oi ok : Oper), ops[i]? = some oi → ops[k]? = some ok → i ≠ k → ∀ d, ok.dst = some d → oi.dst ≠ some d ∧ (d ∈ oi.looksAt ops → (MM ms i).testBit k = true ∨ (MM ms k).testBit i = true)

theorem zipIdx_mem {ops : Array Oper} {i : Nat} {o : Oper} (h : ops[i]? = some o) : (o, i) ∈ ops.toList.zipIdx := by
  rw [List.mem_zipIdx_iff_getElem?]
  simpa using h

theorem drawOk_spec {ops : Array Oper} (h : drawOk ops (masks ops.toList []) = true) : DrawOK ops (masks ops.toList []) := by
  unfold drawOk at h
  rw [List.all_eq_true] at h
  have h1 : ∀ (i : Nat) (o : Oper), ops[i]? = some o → ∀ e ∈ o.after, Region.binds .any e = true → e.on < i := by
    intro i o hi e he hb
    have := h (o, i) (zipIdx_mem hi)
    rw [Bool.and_eq_true, List.all_eq_true] at this
    have := this.1 e (by simpa using he)
    rw [hb] at this
    simp only [Bool.not_true, Bool.false_or] at this
    rwa [Nat.blt_eq] at this
  refine ⟨h1, fun i o hi k => ?_, fun i k oi ok hi hk hne d hd => ?_⟩
  · obtain ⟨hl, _, h3⟩ := masks_spec ops.toList []
    have := h3 i o (by rw [Array.getElem?_toList]; exact hi)
    simp only [List.length_nil, Nat.zero_add] at this
    have hM : MM (masks ops.toList []) i = maskOf ((masks ops.toList []).take i) o.after.toList := by
      unfold MM; rw [List.getD_eq_getElem?_getD, this]; rfl
    rw [hM, maskOf_bit]
    have hget : ∀ e ∈ o.after, Region.binds .any e = true → ((masks ops.toList []).take i).getD e.on 0 = MM (masks ops.toList []) e.on := by
      intro e he hb
      unfold MM
      rw [List.getD_eq_getElem?_getD, List.getD_eq_getElem?_getD, List.getElem?_take, if_pos (h1 i o hi e he hb)]
    constructor
    · rintro ⟨e, he, hb, hk⟩
      have he : e ∈ o.after := by simpa using he
      rw [hget e he hb] at hk
      exact ⟨e, he, hb, hk⟩
    · rintro ⟨e, he, hb, hk⟩
      rw [← hget e he hb] at hk
      exact ⟨e, by simpa using he, hb, hk⟩
  · have := h (oi, i) (zipIdx_mem hi)
    rw [Bool.and_eq_true, List.all_eq_true (l := ops.toList.zipIdx)] at this
    have := this.2 (ok, k) (zipIdx_mem hk)
    unfold pairOk at this
    have hb : Nat.beq i k = false := by
      cases hb : Nat.beq i k with
      | false => rfl
      | true => exact absurd (Nat.eq_of_beq_eq_true hb) hne
    simp only [hb, Bool.false_or, hd] at this
    rw [Bool.and_eq_true, Bool.or_eq_true, Bool.or_eq_true] at this
    refine ⟨by simpa using this.1, fun hm => ?_⟩
    rcases this.2 with (h2 | h2) | h2
    · simp at h2
      exact absurd hm h2
    · exact .inl h2
    · exact .inr h2

theorem some_of {ops : Array Oper} {i : Nat} (h : i < ops.size) : ∃ o, ops[i]? = some o := ⟨ops[i], by simp [h]⟩
namespace DrawOK
variable {ops : Array Oper} {ms : List Nat} (D : DrawOK ops ms)
include D
theorem lt : ∀ (i k : Nat), i < ops.size → (MM ms i).testBit k = true → k < i := by
  intro i
  induction i using Nat.strongRecOn with
  | _ i ih =>
    intro k hi hk
    obtain ⟨o, ho⟩ := some_of hi
    obtain ⟨e, he, hb, h⟩ := (D.bit i o ho k).1 hk
    have hlt := D.on_lt i o ho e he hb
    rcases h with rfl | h
    · exact hlt
    · exact Nat.lt_trans (ih e.on hlt k (by omega) h) hlt
theorem trans : ∀ (i k j : Nat), i < ops.size → (MM ms i).testBit k = true → (MM ms k).testBit j = true → (MM ms i).testBit j = true := by
  intro i
  induction i using Nat.strongRecOn with
  | _ i ih =>
    intro k j hi hk hj
    obtain ⟨o, ho⟩ := some_of hi
    obtain ⟨e, he, hb, h⟩ := (D.bit i o ho k).1 hk
    have hlt := D.on_lt i o ho e he hb
    refine (D.bit i o ho j).2 ⟨e, he, hb, .inr ?_⟩
    rcases h with rfl | h
    · exact hj
    · exact ih e.on hlt k j (by omega) h hj
theorem closed {S : Nat → Prop} (hS : ∀ i o, ops[i]? = some o → S i → ∀ e ∈ o.after, Region.binds .any e = true → S e.on) :
    ∀ (i k : Nat), i < ops.size → S i → (MM ms i).testBit k = true → S k := by
  intro i
  induction i using Nat.strongRecOn with
  | _ i ih =>
    intro k hi hs hk
    obtain ⟨o, ho⟩ := some_of hi
    obtain ⟨e, he, hb, h⟩ := (D.bit i o ho k).1 hk
    have hlt := D.on_lt i o ho e he hb
    have hse := hS i o ho hs e he hb
    rcases h with rfl | h
    · exact hse
    · exact ih e.on hlt k (by omega) hse h
end DrawOK

theorem barrier_spec {ops : Array Oper} {ms : List Nat} {i : Nat} (h : barrier ops ms i = true) (k : Nat) (ok : Oper) (hk : ops[k]? = some ok) (hne : k ≠ i) (hh : heapy ok.op = true) :
    (MM ms i).testBit k = true ∨ (MM ms k).testBit i = true := by
  unfold barrier at h
  rw [List.all_eq_true] at h
  have := h (ok, k) (zipIdx_mem hk)
  have hb : Nat.beq k i = false := by
    cases hb : Nat.beq k i with
    | false => rfl
    | true => exact absurd (Nat.eq_of_beq_eq_true hb) hne
  simp only [hb, hh, Bool.not_true, Bool.false_or, Bool.or_eq_true] at this
  exact this

end Go.Ev
namespace Go.Ev
variable {P : Program}

theorem Agree.symm {n : Nat} {e e' : Env} (h : Agree n e e') : Agree n e' e := fun b hb => ⟨(h b hb).1.symm, (h b hb).2.1.symm, (h b hb).2.2.1.symm, (h b hb).2.2.2.symm⟩

/-- what the memory holds has numbers below `next` -/
def HU (h : Hp) : Prop := 64 ≤ h.next ∧ ∀ b x, h.get b = some x → b < h.next ∧ match x with
  | .cells c _ _ => ∀ v ∈ c, under h.next v
  | .map es _ => ∀ x ∈ es, under h.next x.1 ∧ under h.next x.2.1
  | .iter m _ _ _ => ∀ r, m = some r → r < h.next
  | .loop fr _ _ _ _ => ∀ t v, fr.get t = some v → under h.next v

theorem Rel.hu {h : Hp} {e : Env} {w : World} (r : Rel P h e w) : HU h := by
  refine ⟨r.glob.le, fun b x hb => ?_⟩
  obtain ⟨h1, h2⟩ := r.lies b x hb
  refine ⟨h1, ?_⟩
  cases x with
  | cells c el op =>
    obtain ⟨cs, l, l', _, _, h3, _⟩ := h2.cells_inv
    exact h3.rl.1
  | map es clock =>
    obtain ⟨es', _, h3⟩ := h2
    exact h3.under
  | iter m since seen last => exact h2.1
  | loop fr ps assign body pend =>
    obtain ⟨fn, tmps, df, nt, _, h3, _⟩ := h2
    exact fun t v hv => let ⟨_, _, h4⟩ := h3 t v hv; h4.under

/-- a part of the memory -/
theorem Rel.sub {H g : Hp} {e : Env} {w : World} (r : Rel P H e w) (hs : ∀ b x, g.get b = some x → H.get b = some x) (hu : HU g) (hl : g.low ≤ g.next) : Rel P g e w := by
  refine ⟨fun b x hb => ⟨(hu.2 b x hb).1, ?_⟩, fun b c x y hb hc he => r.inj b c x y (hs b x hb) (hs c y hc) he, hl, ⟨hu.1, r.glob.fix⟩⟩
  have h3 := (hu.2 b x hb).2
  have h4 := (r.lies b _ (hs b _ hb)).2
  cases x with
  | cells c el op =>
    obtain ⟨cs, h1, h2⟩ := h4
    refine ⟨cs, h1, ?_⟩
    split at h2
    · rw [if_pos ‹_›]
      obtain ⟨l, l', hcs, hc, s⟩ := h2
      exact ⟨l, l', hcs, ⟨⟨h3, hc.rl.2⟩, hc.one⟩, s⟩
    · rw [if_neg ‹_›]
      exact ⟨⟨h3, h2.rl.2⟩, h2.one⟩
  | map es clock =>
    obtain ⟨es', h1, h2⟩ := h4
    exact ⟨es', h1, h2.eq, h3⟩
  | iter m since seen last => exact ⟨h3, h4.2⟩
  | loop fr ps assign body pend =>
    obtain ⟨fn, tmps, df, nt, h1, h2, h5⟩ := h4
    exact ⟨fn, tmps, df, nt, h1, fun t v hv => let ⟨v', k1, k2⟩ := h2 t v hv; ⟨v', k1, h3 t v hv, k2.eq⟩, h5⟩

/-- what is done beside: the memory that was seen is as it was -/
theorem Rel.side {H g h' : Hp} {e e' : Env} {w w' : World} (r : Rel P H e w) (hs : ∀ b x, g.get b = some x → H.get b = some x) (hu : HU g) (hlow : g.low = g.next) (hn : g.next ≤ H.next)
    (r' : Rel P h' e' w') (s : Stp g e w h' e' w') (hn' : h'.next = g.next) : Rel P H e w' ∧ Stp H e w H e w' := by
  have hkeep : ∀ b x, H.get b = some x → Lies P H.next e b x w' := by
    intro b x hb
    obtain ⟨h1, h2⟩ := r.lies b x hb
    cases hg : g.get b with
    | some y =>
      have hy := hs b y hg
      rw [hb] at hy
      cases hy
      have hbn := (hu.2 b x hg).1
      have hh' : h'.get b = some x := by rw [s.prot b (by rw [hlow]; exact hbn), hg]
      have h3 := (r'.lies b x hh').2
      rw [hn'] at h3
      have h4 : w'.heap[e'.phi b]? = w'.heap[e'.phi b]? := rfl
      refine h3.mono hbn hn s.agree.symm rfl
    | none =>
      refine h2.mono h1 (Nat.le_refl _) (Agree.refl _ _) (s.keep _ (r.lt hb) fun c y hc he => ?_)
      have := r.inj c b y x (hs c y hc) hb he
      subst this
      rw [hg] at hc; cases hc
  exact ⟨⟨fun b x hb => ⟨(r.lies b x hb).1, hkeep b x hb⟩, r.inj, r.low, r.glob⟩,
    ⟨Nat.le_refl _, Agree.refl _ _, fun b x hb => .inl ⟨b, x, hb, rfl⟩, fun k hk hno => s.keep k hk fun b x hb he => hno b x (hs b x hb) he, s.size, s.os, s.tape, s.output, rfl, fun _ _ => rfl⟩⟩

/-- the same with another mark of what may not be written -/
theorem Rel.lower {h : Hp} {e : Env} {w : World} (r : Rel P h e w) {l : Nat} (hl : l ≤ h.next) : Rel P ⟨h.t, h.next, l⟩ e w := ⟨r.lies, r.inj, hl, r.glob⟩
theorem Stp.lower {h h' : Hp} {l : Nat} {e e' : Env} {w w' : World} (s : Stp ⟨h.t, h.next, l⟩ e w h' e' w') (hl : h.low ≤ l) : Stp h e w ⟨h'.t, h'.next, h.low⟩ e' w' :=
  ⟨s.next, s.agree, s.img, s.keep, s.size, s.os, s.tape, s.output, rfl, fun b hb => s.prot b (Nat.lt_of_lt_of_le hb hl)⟩

end Go.Ev
