/- The evaluator of closed calls, and that its operations do in a world what they do in it. -/
import Derived.Calls
import Derived.Orders
import Derived.Laws.Entries
import Derived.Laws.BytesArg
set_option linter.unusedVariables false
set_option linter.unusedSimpArgs false
namespace Go.Ev

/-- a pair of numbers of which it is known whether they are ages -/
def okPair (p : Int × Int) : Bool := decide (0 ≤ p.1 ∧ p.1 ≤ p.2 ∧ p.2 ≤ 65536)
/-- where the blocks of the evaluator lie, and what room its open rows have -/
structure Env where
  phi : Nat → Nat
  kap : Nat → Nat
  gh : Nat → Nat
  iv : (b : Bool) → { p : Int × Int // okPair p = b }
/-- the number that a mark (a complex number of the evaluator's) stands for -/
def Env.at (e : Env) (k : FloatKind) (a : Nat) : Int :=
  match k, a with
  | .f32, 0 => (e.iv true).1.1
  | .f32, _ => (e.iv true).1.2
  | .f64, 0 => (e.iv false).1.1
  | .f64, _ => (e.iv false).1.2

/-- the mark of a row whose capacity only the machine knows -/
def OPEN : Nat := 2 ^ 62

/-- an address with a spot stands for a place of which only the machine knows where in its row it is -/
def cA (e : Env) (a : Addr) : Addr := ⟨e.phi a.block, if a.spot = none then a.off else e.gh a.block, none⟩
theorem cA_none {e : Env} {a : Addr} (h : a.spot = none) : cA e a = ⟨e.phi a.block, a.off, none⟩ := by simp [cA, h]
def cFn (e : Env) : Fn → Fn
  | .yield l => .yield (e.phi l)
  | f => f
def cCap (e : Env) (a : Option Addr) (cap : Nat) : Nat :=
  match a with
  | none => cap
  | some a => if OPEN ≤ cap then e.kap a.block - (cap - OPEN) else cap

mutual
def conc (e : Env) : Value → Value
  | .pointer a => .pointer (a.map (cA e))
  | .slice a len cap => .slice (a.map (cA e)) len (cCap e a cap)
  | .map r => .map (r.map e.phi)
  | .chan r => .chan (r.map e.phi)
  | .func fn first captured => .func (cFn e fn) (concA e first) (concA e captured)
  | .iface t v => .iface t (conc e v)
  | .agg cs => .agg (concA e cs)
  | .tuple vs => .tuple (concA e vs)
  | .bool b => .bool b
  | .int k n => .int k n
  | .float k b => .float k b
  | .complex k a _ => .int .i64 (e.at k a)
  | .string s => .string s
  | .nilFunc => .nilFunc
  | .nilIface => .nilIface
def concA (e : Env) : Array Value → Array Value
  | ⟨l⟩ => ⟨concL e l⟩
def concL (e : Env) : List Value → List Value
  | [] => []
  | v :: l => conc e v :: concL e l
end

/-- the value of one cell -/
def one : Value → Bool
  | .agg _ | .tuple _ => false
  | _ => true

mutual
/-- every block that the value names has a number below `n` -/
def under (n : Nat) : Value → Prop
  | .pointer a => ∀ x, a = some x → x.block < n
  | .slice a _ _ => ∀ x, a = some x → x.block < n
  | .map r => ∀ x, r = some x → x < n
  | .chan r => ∀ x, r = some x → x < n
  | .func fn first captured => (∀ l, fn = .yield l → l < n) ∧ underA n first ∧ underA n captured
  | .iface _ v => under n v
  | .agg cs => underA n cs ∧ ∀ v ∈ cs.toList, one v = true
  | .tuple vs => underA n vs
  | .complex _ _ _ => 0 < n
  | _ => True
def underA (n : Nat) : Array Value → Prop
  | ⟨l⟩ => underL n l
def underL (n : Nat) : List Value → Prop
  | [] => True
  | v :: l => under n v ∧ underL n l
end

theorem concL_map (e : Env) : ∀ l, concL e l = l.map (conc e)
  | [] => by simp [concL]
  | v :: l => by simp [concL, concL_map e l]
theorem concA_map (e : Env) (a : Array Value) : concA e a = a.map (conc e) := by
  cases a with | mk l => simp [concA, concL_map]
theorem underL_iff (n : Nat) : ∀ l, underL n l ↔ ∀ v ∈ l, under n v
  | [] => by simp [underL]
  | v :: l => by simp [underL, underL_iff n l]
theorem underA_iff (n : Nat) (a : Array Value) : underA n a ↔ ∀ v ∈ a.toList, under n v := by
  cases a with | mk l => simp [underA, underL_iff]

mutual
theorem under_mono {n m : Nat} (h : n ≤ m) : ∀ v, under n v → under m v
  | .pointer a, hv => by simp only [under] at *; exact fun x hx => Nat.lt_of_lt_of_le (hv x hx) h
  | .slice a _ _, hv => by simp only [under] at *; exact fun x hx => Nat.lt_of_lt_of_le (hv x hx) h
  | .map a, hv => by simp only [under] at *; exact fun x hx => Nat.lt_of_lt_of_le (hv x hx) h
  | .chan a, hv => by simp only [under] at *; exact fun x hx => Nat.lt_of_lt_of_le (hv x hx) h
  | .func fn a b, hv => by
    simp only [under] at *
    exact ⟨fun l hl => Nat.lt_of_lt_of_le (hv.1 l hl) h, underA_mono h a hv.2.1, underA_mono h b hv.2.2⟩
  | .iface _ v, hv => by simp only [under] at *; exact under_mono h v hv
  | .agg cs, hv => by simp only [under] at *; exact ⟨underA_mono h cs hv.1, hv.2⟩
  | .tuple cs, hv => by simp only [under] at *; exact underA_mono h cs hv
  | .complex _ _ _, hv => by simp only [under] at *; omega
  | .bool _, _ | .int _ _, _ | .float _ _, _ | .string _, _ | .nilFunc, _ | .nilIface, _ => by simp [under]
theorem underA_mono {n m : Nat} (h : n ≤ m) : ∀ a, underA n a → underA m a
  | ⟨l⟩, ha => by simp only [underA] at *; exact underL_mono h l ha
theorem underL_mono {n m : Nat} (h : n ≤ m) : ∀ l, underL n l → underL m l
  | [], _ => by simp [underL]
  | v :: l, hl => by simp only [underL] at *; exact ⟨under_mono h v hl.1, underL_mono h l hl.2⟩
end

/-- the two say the same below `n` -/
def Agree (n : Nat) (e e' : Env) : Prop := ∀ b, b < n → e'.phi b = e.phi b ∧ e'.kap b = e.kap b ∧ e'.gh b = e.gh b ∧ e'.iv = e.iv

theorem Agree.refl (n : Nat) (e : Env) : Agree n e e := fun _ _ => ⟨rfl, rfl, rfl, rfl⟩
theorem Agree.trans {n m : Nat} {e f g : Env} (h : Agree n e f) (hnm : n ≤ m) (k : Agree m f g) : Agree n e g := fun b hb =>
  have hk := k b (Nat.lt_of_lt_of_le hb hnm)
  ⟨hk.1.trans (h b hb).1, hk.2.1.trans (h b hb).2.1, hk.2.2.1.trans (h b hb).2.2.1, hk.2.2.2.trans (h b hb).2.2.2⟩

theorem cA_agree {n : Nat} {e e' : Env} (h : Agree n e e') (a : Option Addr) (ha : ∀ x, a = some x → x.block < n) : a.map (cA e') = a.map (cA e) := by
  cases a with
  | none => rfl
  | some x => simp [cA, (h _ (ha x rfl)).1, (h _ (ha x rfl)).2.2.1]
theorem cCap_agree {n : Nat} {e e' : Env} (h : Agree n e e') (a : Option Addr) (ha : ∀ x, a = some x → x.block < n) (c : Nat) : cCap e' a c = cCap e a c := by
  cases a with
  | none => rfl
  | some x => simp [cCap, (h _ (ha x rfl)).2.1]
theorem phi_agree {n : Nat} {e e' : Env} (h : Agree n e e') (a : Option Nat) (ha : ∀ x, a = some x → x < n) : a.map e'.phi = a.map e.phi := by
  cases a with
  | none => rfl
  | some x => simp [(h _ (ha x rfl)).1]

mutual
theorem conc_agree {n : Nat} {e e' : Env} (h : Agree n e e') : ∀ v, under n v → conc e' v = conc e v
  | .pointer a, hv => by simp only [under] at hv; simp only [conc, cA_agree h a hv]
  | .slice a _ _, hv => by simp only [under] at hv; simp only [conc, cA_agree h a hv, cCap_agree h a hv]
  | .map a, hv => by simp only [under] at hv; simp only [conc, phi_agree h a hv]
  | .chan a, hv => by simp only [under] at hv; simp only [conc, phi_agree h a hv]
  | .func fn a b, hv => by
    simp only [under] at hv
    simp only [conc, concA_agree h a hv.2.1, concA_agree h b hv.2.2]
    cases fn with
    | yield l => simp [cFn, (h l (hv.1 l rfl)).1]
    | _ => rfl
  | .iface _ v, hv => by simp only [under] at hv; simp only [conc, conc_agree h v hv]
  | .agg cs, hv => by simp only [under] at hv; simp only [conc, concA_agree h cs hv.1]
  | .tuple cs, hv => by simp only [under] at hv; simp only [conc, concA_agree h cs hv]
  | .complex _ _ _, hv => by simp only [under] at hv; simp only [conc, Env.at, (h 0 hv).2.2.2]
  | .bool _, _ | .int _ _, _ | .float _ _, _ | .string _, _ | .nilFunc, _ | .nilIface, _ => by simp [conc]
theorem concA_agree {n : Nat} {e e' : Env} (h : Agree n e e') : ∀ a, underA n a → concA e' a = concA e a
  | ⟨l⟩, ha => by simp only [underA] at ha; simp only [concA, concL_agree h l ha]
theorem concL_agree {n : Nat} {e e' : Env} (h : Agree n e e') : ∀ l, underL n l → concL e' l = concL e l
  | [], _ => by simp [concL]
  | v :: l, hl => by simp only [underL] at hl; simp only [concL, conc_agree h v hl.1, concL_agree h l hl.2]
end

/-- the value `v'` of the machine is the value `v` of the evaluator -/
structure RV (n : Nat) (e : Env) (v v' : Value) : Prop where
  under : under n v
  eq : v' = conc e v

theorem RV.mono {n m : Nat} {e e' : Env} {v v' : Value} (h : RV n e v v') (hn : n ≤ m) (ha : Agree n e e') : RV m e' v v' :=
  ⟨under_mono hn v h.under, h.eq.trans (conc_agree ha v h.under).symm⟩

/-- lists of values -/
def RL (n : Nat) (e : Env) (l l' : List Value) : Prop := (∀ v ∈ l, under n v) ∧ l' = l.map (conc e)

theorem RL.mono {n m : Nat} {e e' : Env} {l l' : List Value} (h : RL n e l l') (hn : n ≤ m) (ha : Agree n e e') : RL m e' l l' :=
  ⟨fun v hv => under_mono hn v (h.1 v hv), h.2.trans (List.map_congr_left fun v hv => (conc_agree ha v (h.1 v hv)).symm)⟩
theorem RL.nil {n : Nat} {e : Env} : RL n e [] [] := ⟨by simp, rfl⟩
theorem RL.cons {n : Nat} {e : Env} {v v' : Value} {l l' : List Value} (h : RV n e v v') (k : RL n e l l') : RL n e (v :: l) (v' :: l') :=
  ⟨by simpa using ⟨h.under, k.1⟩, by simp [h.eq, k.2]⟩
theorem RL.append {n : Nat} {e : Env} {a a' b b' : List Value} (h : RL n e a a') (k : RL n e b b') : RL n e (a ++ b) (a' ++ b') :=
  ⟨fun v hv => (List.mem_append.1 hv).elim (h.1 v) (k.1 v), by simp [h.2, k.2]⟩

theorem RL.length {n : Nat} {e : Env} {l l' : List Value} (h : RL n e l l') : l'.length = l.length := by simp [h.2]
theorem RL.drop {n : Nat} {e : Env} {l l' : List Value} (h : RL n e l l') (k : Nat) : RL n e (l.drop k) (l'.drop k) :=
  ⟨fun v hv => h.1 v (List.mem_of_mem_drop hv), by simp [h.2, List.map_drop]⟩
theorem RL.take {n : Nat} {e : Env} {l l' : List Value} (h : RL n e l l') (k : Nat) : RL n e (l.take k) (l'.take k) :=
  ⟨fun v hv => h.1 v (List.mem_of_mem_take hv), by simp [h.2, List.map_take]⟩
theorem RL.get {n : Nat} {e : Env} {l l' : List Value} (h : RL n e l l') {k : Nat} {v : Value} (hk : l[k]? = some v) : ∃ v', l'[k]? = some v' ∧ RV n e v v' :=
  ⟨conc e v, by simp [h.2, hk], h.1 v (List.mem_of_getElem? hk), rfl⟩

/-- lists of cells -/
structure RC (n : Nat) (e : Env) (l l' : List Value) : Prop where
  rl : RL n e l l'
  one : ∀ v ∈ l, one v = true

theorem one_conc (e : Env) (v : Value) : one (conc e v) = one v := by cases v <;> rfl

theorem RC.mono {n m : Nat} {e e' : Env} {l l' : List Value} (h : RC n e l l') (hn : n ≤ m) (ha : Agree n e e') : RC m e' l l' := ⟨h.rl.mono hn ha, h.one⟩
theorem RC.nil {n : Nat} {e : Env} : RC n e [] [] := ⟨RL.nil, by simp⟩
theorem RC.append {n : Nat} {e : Env} {a a' b b' : List Value} (h : RC n e a a') (k : RC n e b b') : RC n e (a ++ b) (a' ++ b') :=
  ⟨h.rl.append k.rl, fun v hv => (List.mem_append.1 hv).elim (h.one v) (k.one v)⟩
theorem RC.drop {n : Nat} {e : Env} {l l' : List Value} (h : RC n e l l') (k : Nat) : RC n e (l.drop k) (l'.drop k) := ⟨h.rl.drop k, fun v hv => h.one v (List.mem_of_mem_drop hv)⟩
theorem RC.take {n : Nat} {e : Env} {l l' : List Value} (h : RC n e l l') (k : Nat) : RC n e (l.take k) (l'.take k) := ⟨h.rl.take k, fun v hv => h.one v (List.mem_of_mem_take hv)⟩

theorem RV.agg {n : Nat} {e : Env} {l : List Value} {c : Array Value} (h : RC n e l c.toList) : RV n e (.agg ⟨l⟩) (.agg c) :=
  ⟨by simp only [Ev.under, underA, underL_iff]; exact ⟨h.rl.1, h.one⟩, by
    cases c with | mk c' => simp only [conc, concA, concL_map]; have := h.rl.2; simp at this; rw [this]⟩
theorem RV.agg_inv {n : Nat} {e : Env} {cs : Array Value} {v' : Value} (h : RV n e (.agg cs) v') : ∃ c, v' = .agg c ∧ RC n e cs.toList c.toList := by
  refine ⟨concA e cs, h.eq, ⟨?_, ?_⟩, ?_⟩
  · have := h.under; simp only [Ev.under, underA_iff] at this; exact this.1
  · rw [concA_map]; simp
  · have := h.under; simp only [Ev.under] at this; exact this.2
/-- the cells of a value that is no tuple -/
theorem RV.cells {n : Nat} {e : Env} {v v' : Value} (h : RV n e v v') (ht : ∀ vs, v ≠ .tuple vs) : RC n e v.cells.toList v'.cells.toList := by
  by_cases ha : ∃ cs, v = .agg cs
  · obtain ⟨cs, rfl⟩ := ha
    obtain ⟨c, rfl, hc⟩ := h.agg_inv
    exact hc
  · have h1 : one v = true := by cases v <;> simp [one] at * <;> first | exact ha _ rfl | exact ht _ rfl
    have h2 : v.cells = #[v] := by cases v <;> simp_all [Value.cells, one]
    have h3 : v'.cells = #[v'] := by
      have : one v' = true := by rw [h.eq, one_conc]; exact h1
      cases v' <;> simp_all [Value.cells, one]
    rw [h2, h3]
    exact ⟨RL.cons h RL.nil, by simpa using h1⟩

end Go.Ev
namespace Go.Ev

/-! a trie over the numbers -/
inductive T (α : Type) where
  | leaf
  | node (l : T α) (v : Option α) (r : T α)

/-- a path into the trie -/
inductive Pos where
  | e
  | a (p : Pos)
  | b (p : Pos)
noncomputable def pthF (k : Nat) : Nat → Pos :=
  Nat.rec (motive := fun _ => Nat → Pos) (fun _ => .e)
    (fun _ ih n => Bool.rec (Bool.rec (.b (ih (Nat.pred (Nat.div n 2)))) (.a (ih (Nat.div n 2))) (Nat.beq (Nat.mod n 2) 1)) .e (Nat.beq n 0)) k
noncomputable def pth (n : Nat) : Pos := pthF n n

namespace T
variable {α : Type}
noncomputable def getP (t : T α) : Pos → Option α :=
  T.rec (motive := fun _ => Pos → Option α) (fun _ => none)
    (fun _ v _ gl gr p => Pos.rec (motive := fun _ => Option α) v (fun q _ => gl q) (fun q _ => gr q) p) t
noncomputable def setP (p : Pos) (x : Option α) : T α → T α :=
  Pos.rec (motive := fun _ => T α → T α)
    (fun t => T.rec (motive := fun _ => T α) (.node .leaf x .leaf) (fun l _ r _ _ => .node l x r) t)
    (fun _ ih t => T.rec (motive := fun _ => T α) (.node (ih .leaf) none .leaf) (fun l v r _ _ => .node (ih l) v r) t)
    (fun _ ih t => T.rec (motive := fun _ => T α) (.node .leaf none (ih .leaf)) (fun l v r _ _ => .node l v (ih r)) t) p
noncomputable def get (t : T α) (n : Nat) : Option α := t.getP (pth n)
noncomputable def set (t : T α) (n : Nat) (x : Option α) : T α := t.setP (pth n) x
end T


abbrev Fr := T Value
/-- a block of the evaluator: the cells that are known (an open row may have more); a map; the record of a range over a function -/
inductive Blk where
  | cells (c : List Value) (elem : TypeId) (opn : Bool)
  | map (es : List (Value × Value × Nat)) (clock : Nat)
  | iter (m : Option Nat) (since : Nat) (seen : List Nat) (last : Nat)
  | loop (fr : Fr) (ps : List Tmp) (assign body : Code) (pend : Option Code)

/-- the evaluator's memory: what is below `low` may not be written -/
structure Hp where
  t : T Blk
  next : Nat
  low : Nat

noncomputable def Hp.get (h : Hp) (b : Nat) : Option Blk := h.t.get b
noncomputable def Hp.put (h : Hp) (b : Nat) (x : Option Blk) : Hp := ⟨h.t.set b x, h.next, h.low⟩
/-- with a new block, whose number is `h.next` -/
noncomputable def Hp.new (h : Hp) (x : Blk) : Hp := ⟨h.t.set h.next (some x), Nat.add h.next 1, h.low⟩

noncomputable def val? {α : Type} : Sem α → Option α
  | .pure a => some a
  | _ => none

def plainCell : Value → Bool
  | .bool _ | .int .. | .string _ | .pointer none | .slice none _ _ | .map none | .nilFunc | .nilIface => true
  | _ => false
def plain : Value → Bool
  | .agg cs => cs.all plainCell
  | v => plainCell v

noncomputable def lTmp (t : Tmp) (fr : Fr) : Option Value := fr.get t
noncomputable def lConst (v : Value) (_ : Fr) : Option Value := bif plain v then some v else none
noncomputable def lNone (g : Nat) (_ : Fr) : Option Value := bif Nat.blt g 64 then some (.pointer (some ⟨g, 0, none⟩)) else none
noncomputable def lFunc (f : Nat) (_ : Fr) : Option Value := some (.func (.func f) #[] #[])
noncomputable def look (fr : Fr) (x : Operand) : Option Value :=
  (Operand.rec (motive := fun _ => Fr → Option Value) lTmp lConst lNone lFunc x) fr

noncomputable def putT (fr : Fr) (d : Option Tmp) (v : Value) : Fr :=
  match d with
  | none => fr
  | some d => fr.set d (some v)

section
variable (P : Program)

noncomputable def isAggT (t : TypeId) : Option Bool :=
  match P.underlying t with
  | none => none
  | some (.struct _) => some true
  | some (.array _ _) => some true
  | _ => some false

noncomputable def bytesOf (t : TypeId) : Option Nat := match P.info? t with | none => none | some i => some i.bytes
noncomputable def szOf (t : TypeId) : Option Nat := match P.info? t with | none => none | some i => some i.size
noncomputable def zeroL (t : TypeId) : Option (List Value) := match P.info? t with
  | none => none
  | some i => match i.zero with
    | none => none
    | some z => bif z.cells.toList.all plainCell then some z.cells.toList else none

noncomputable def splice (l : List Value) (off : Nat) (vs : List Value) : List Value :=
  match off, l with
  | 0, l => go l vs
  | n + 1, x :: l => x :: splice l n vs
  | _ + 1, [] => []
where
  go : List Value → List Value → List Value
  | l, [] => l
  | [], _ => []
  | _ :: l, v :: vs => v :: go l vs

/-- `n` cells from an address on -/
noncomputable def rd (h : Hp) (a : Addr) (n : Nat) : Option (List Value) :=
  match a.spot, h.get a.block with
  | none, some (.cells c _ _) => bif Nat.ble (Nat.add a.off n) c.length then some ((c.drop a.off).take n) else none
  | _, _ => none
/-- one cell -/
noncomputable def rd1 (h : Hp) (a : Addr) : Option Value :=
  match a.spot, h.get a.block with
  | none, some (.cells c _ _) => c[a.off]?
  | _, _ => none
/-- cells written from an address on -/
noncomputable def wr (h : Hp) (a : Addr) (vs : List Value) : Option Hp :=
  match a.spot, h.get a.block with
  | none, some (.cells c el op) =>
    bif not (Nat.blt a.block h.low) && Nat.ble (Nat.add a.off vs.length) c.length then some (h.put a.block (some (.cells (splice c a.off vs) el op))) else none
  | _, _ => none
noncomputable def newPtr (h : Hp) : Value := .pointer (some ⟨h.next, 0, none⟩)

noncomputable def loadA (h : Hp) (t : TypeId) (a : Addr) : Option Value :=
  match isAggT P t with
  | none => none
  | some true => match szOf P t with
    | none => none
    | some n => match rd h a n with | none => none | some l => some (.agg ⟨l⟩)
  | some false => rd1 h a

noncomputable def storeA (h : Hp) (t : TypeId) (a : Addr) (v : Value) : Option Hp :=
  match szOf P t with
  | none => none
  | some n => match v with
    | .tuple _ => none
    | v => bif Nat.beq v.cells.toList.length n then wr h a v.cells.toList else none

noncomputable def fillL (place : Nat → Option (Nat × Nat)) (cells : List Value) : List (Nat × Value) → Option (List Value)
  | [] => some cells
  | (i, v) :: rest =>
    match place i with
    | none => none
    | some (off, size) =>
      match v with
      | .tuple _ => none
      | v =>
      bif Nat.beq v.cells.toList.length size && Nat.ble (Nat.add off size) cells.length then fillL place (splice cells off v.cells.toList) rest else none

noncomputable def lookAll (fr : Fr) : List Operand → Option (List Value)
  | [] => some []
  | x :: xs => match look fr x with
    | none => none
    | some v => match lookAll fr xs with
      | none => none
      | some vs => some (v :: vs)

noncomputable def lookParts (fr : Fr) : List (Nat × Operand) → Option (List (Nat × Value))
  | [] => some []
  | (i, x) :: xs => match look fr x with
    | none => none
    | some v => match lookParts fr xs with
      | none => none
      | some vs => some ((i, v) :: vs)

/-- where each field of a struct lies -/
noncomputable def placesOf : List Field → Option (List (Nat × Nat))
  | [] => some []
  | f :: fs => match szOf P f.type with
    | none => none
    | some n => match placesOf fs with
      | none => none
      | some ps => some ((f.offset, n) :: ps)

noncomputable def repeatL (z : List Value) : Nat → List Value
  | 0 => []
  | n + 1 => z ++ repeatL z n

noncomputable def eqK (k k' : IntKind) : Bool :=
  IntKind.rec (motive := fun _ => IntKind → Bool)
    (fun k => IntKind.rec (motive := fun _ => Bool) true false false false false false false false k)
    (fun k => IntKind.rec (motive := fun _ => Bool) false true false false false false false false k)
    (fun k => IntKind.rec (motive := fun _ => Bool) false false true false false false false false k)
    (fun k => IntKind.rec (motive := fun _ => Bool) false false false true false false false false k)
    (fun k => IntKind.rec (motive := fun _ => Bool) false false false false true false false false k)
    (fun k => IntKind.rec (motive := fun _ => Bool) false false false false false true false false k)
    (fun k => IntKind.rec (motive := fun _ => Bool) false false false false false false true false k)
    (fun k => IntKind.rec (motive := fun _ => Bool) false false false false false false false true k) k k'
noncomputable def eqBL (a : List UInt8) : List UInt8 → Bool :=
  List.rec (motive := fun _ => List UInt8 → Bool) (fun b => List.rec (motive := fun _ => Bool) true (fun _ _ _ => false) b)
    (fun x _ ih b => List.rec (motive := fun _ => Bool) false (fun y ys _ => Bool.rec false (ih ys) (Nat.beq x.toNat y.toNat)) b) a
/-- equality of two values of one cell, where it is plain -/
noncomputable def eqCell (t : TypeId) (x y : Value) : Option Bool :=
  match P.underlying t, x, y with
  | some .bool, .bool a, .bool b => some (a == b)
  | some (.int _), .int k a, .int k' b => bif eqK k k' then some (a == b) else none
  | some .string, .string a, .string b => some (eqBL a.data.toList b.data.toList)
  | some (.pointer _), .pointer none, .pointer b => some b.isNone
  | some (.pointer _), .pointer (some _), .pointer none => some false
  | some (.interface _), .nilIface, .iface _ _ => some false
  | some (.interface _), .iface _ _, .nilIface => some false
  | some (.slice _), .slice none _ _, .slice b _ _ => some b.isNone
  | some (.slice _), .slice (some _) _ _, .slice none _ _ => some false
  | some (.map _ _), .map none, .map b => some b.isNone
  | some (.map _ _), .map (some _), .map none => some false
  | some (.func _ _ _), .nilFunc, .nilFunc => some true
  | some (.func _ _ _), .nilFunc, .func _ _ _ => some false
  | some (.func _ _ _), .func _ _ _, .nilFunc => some false
  | _, _, _ => none
noncomputable def eqFields (xs ys : List Value) : List Field → Option Bool
  | [] => some true
  | f :: fs => bif f.name == "_" then none else
    match isAggT P f.type, xs[f.offset]?, ys[f.offset]? with
    | some false, some x, some y => match eqCell P f.type x y with
      | some true => eqFields xs ys fs
      | some false => some false
      | none => none
    | _, _, _ => none
noncomputable def evEq (t : TypeId) (x y : Value) : Option Bool :=
  match x, y with
  | .agg xs, .agg ys => match P.underlying t with
    | some (.struct fs) => bif P.stoodInHeld t || P.eqGuardType P.depth t then none else eqFields P xs.toList ys.toList fs.toList
    | _ => none
  | x, y => eqCell P t x y

def topOf : IntKind → Nat
  | .i8 => 128 | .i16 => 32768 | .i32 => 2147483648 | .i64 => 9223372036854775808
  | .u8 => 256 | .u16 => 65536 | .u32 => 4294967296 | .u64 => 18446744073709551616
noncomputable def wrapI (k : IntKind) (n : Int) : Int :=
  match n with
  | .ofNat n => bif Nat.blt n (topOf k) then .ofNat n else k.wrap (.ofNat n)
  | n => k.wrap n
noncomputable def slowInt (op : BinOp) (k : IntKind) (a : Int) (k' : IntKind) (b : Int) : Option Value :=
    match op with
    | .shl | .shr => val? (Op.shift op k a k' b)
    | _ => bif k == k' then
      match op with
      | .add | .sub | .mul => val? (Op.intArith op k a b)
      | .quo | .rem => val? (Op.intDiv op k a b)
      | .and | .or | .xor | .andNot => val? (Op.intBits op k a b)
      | _ => val? (Op.intCmp op a b)
      else none
noncomputable def wrapU (k : IntKind) (n : Nat) : Int :=
  match k with
  | .u64 => .ofNat (Nat.mod n 18446744073709551616)
  | .u8 => .ofNat (Nat.mod n 256)
  | k => bif Nat.blt n (topOf k) then .ofNat n else k.wrap (.ofNat n)
def bitsOf : IntKind → Nat
  | .i8 | .u8 => 8 | .i16 | .u16 => 16 | .i32 | .u32 => 32 | .i64 | .u64 => 64
abbrev NatOp := IntKind → IntKind → Nat → Nat → Option Value
noncomputable def slowN (op : BinOp) : NatOp := fun k k' a b => slowInt op k (.ofNat a) k' (.ofNat b)
noncomputable def nAdd : NatOp := fun k k' a b => bif eqK k k' then some (.int k (wrapU k (Nat.add a b))) else none
noncomputable def nSub : NatOp := fun k k' a b => bif eqK k k' && Nat.ble b a && Nat.blt a (topOf k) then some (.int k (.ofNat (Nat.sub a b))) else slowN .sub k k' a b
noncomputable def nMul : NatOp := fun k k' a b => bif eqK k k' then some (.int k (wrapU k (Nat.mul a b))) else none
noncomputable def nXor : NatOp := fun k k' a b => bif eqK k k' then match k with
      | .u64 => some (.int .u64 (.ofNat (Nat.xor (Nat.mod a 18446744073709551616) (Nat.mod b 18446744073709551616))))
      | k => slowN .xor k k' a b
    else none
noncomputable def nShr : NatOp := fun k k' a b => bif Nat.ble b (bitsOf k) then some (.int k (.ofNat (Nat.shiftRight a b))) else slowN .shr k k' a b
noncomputable def nEql : NatOp := fun k k' a b => bif eqK k k' then some (.bool (Nat.beq a b)) else none
noncomputable def nNeq : NatOp := fun k k' a b => bif eqK k k' then some (.bool (not (Nat.beq a b))) else none
noncomputable def nLss : NatOp := fun k k' a b => bif eqK k k' then some (.bool (Nat.blt a b)) else none
noncomputable def nLeq : NatOp := fun k k' a b => bif eqK k k' then some (.bool (Nat.ble a b)) else none
noncomputable def nGtr : NatOp := fun k k' a b => bif eqK k k' then some (.bool (Nat.blt b a)) else none
noncomputable def nGeq : NatOp := fun k k' a b => bif eqK k k' then some (.bool (Nat.ble b a)) else none
/-- the order: add sub mul quo rem and or xor shl shr andNot eql neq lss leq gtr geq -/
noncomputable def natOp (op : BinOp) : NatOp :=
  BinOp.rec (motive := fun _ => NatOp) nAdd nSub nMul (slowN .quo) (slowN .rem) (slowN .and) (slowN .or) nXor (slowN .shl) nShr (slowN .andNot) nEql nNeq nLss nLeq nGtr nGeq op
/-- a negative number held against another one -/
noncomputable def cmpSign (op : BinOp) (neg : Bool) : Option Bool :=
  match op with
  | .lss | .leq => some neg
  | .gtr | .geq => some (not neg)
  | .eql => some false
  | .neq => some true
  | _ => none
noncomputable def evInt (op : BinOp) (k : IntKind) (a : Int) (k' : IntKind) (b : Int) : Option Value :=
  match a, b with
  | .ofNat a, .ofNat b => natOp op k k' a b
  | .negSucc a, .ofNat b => match cmpSign op true with
    | some r => bif eqK k k' then some (.bool r) else none
    | none => slowInt op k (.negSucc a) k' (.ofNat b)
  | .ofNat a, .negSucc b => match cmpSign op false with
    | some r => bif eqK k k' then some (.bool r) else none
    | none => slowInt op k (.ofNat a) k' (.negSucc b)
  | a, b => slowInt op k a k' b

noncomputable def evStr (op : BinOp) (a b : ByteArray) : Option Value :=
  match op with
  | .add => bif Nat.ble (Nat.add a.size b.size) 1073741824 then some (.string ⟨⟨a.data.toList ++ b.data.toList⟩⟩) else none
  | .eql => some (.bool (eqBL a.data.toList b.data.toList))
  | .neq => some (.bool (not (eqBL a.data.toList b.data.toList)))
  | .lss => some (.bool (Op.bytesLess a.data.toList b.data.toList))
  | .leq => some (.bool (Op.bytesLess a.data.toList b.data.toList || eqBL a.data.toList b.data.toList))
  | .gtr => some (.bool (not (Op.bytesLess a.data.toList b.data.toList || eqBL a.data.toList b.data.toList)))
  | .geq => some (.bool (not (Op.bytesLess a.data.toList b.data.toList)))
  | _ => none
noncomputable def evBin (op : BinOp) (t : TypeId) (x y : Value) : Option Value :=
  match x, y with
  | .int k a, .int k' b => evInt op k a k' b
  | .string a, .string b => evStr op a b
  | x, y =>
    match op with
    | .eql => match evEq P t x y with | none => none | some b => some (.bool b)
    | .neq => match evEq P t x y with | none => none | some b => some (.bool (not b))
    | _ => none

noncomputable def addrAdd (a : Addr) (n : Nat) : Addr := bif Nat.beq n 0 then a else ⟨a.block, Nat.add a.off n, none⟩

noncomputable def natOf (n : Int) : Option Nat := match n with | .ofNat n => some n | .negSucc _ => none

noncomputable def bound (fr : Fr) (x : Option Operand) (dflt : Nat) : Option Nat :=
  match x with
  | none => some dflt
  | some x => match look fr x with
    | some (.int _ (.ofNat n)) => some n
    | _ => none

noncomputable def evSlice (h : Hp) (fr : Fr) (t : TypeId) (x : Value) (lo hi mx : Option Operand) : Option Value :=
  match P.underlying t, x with
  | some (.array n e), .pointer (some a) =>
    match szOf P e, bound fr lo 0, bound fr hi n, bound fr mx n with
    | some sz, some l, some r, some m =>
      bif Nat.ble l r && Nat.ble r m && Nat.ble m n && Nat.ble n 16777216 && a.spot.isNone && (hi.isSome || mx.isNone) then
        some (.slice (some (bif Nat.beq m l then a else addrAdd a (Nat.mul l sz))) (Nat.sub r l) (Nat.sub m l)) else none
    | _, _, _, _ => none
  | some .string, .string s =>
    match bound fr lo 0, bound fr hi s.size, mx with
    | some l, some r, none => bif Nat.ble l r && Nat.ble r s.size then some (.string (s.extract l r)) else none
    | _, _, _ => none
  | some (.slice e), .slice a len cap =>
    match szOf P e, bound fr lo 0, bound fr hi len with
    | some sz, some l, some r =>
      bif Nat.ble l r && (hi.isSome || mx.isNone) then
      bif Nat.ble OPEN cap then
        -- an open row: what is known ends with its cells
        match a, mx with
        | some a, none =>
          match a.spot, h.get a.block with
          | none, some (.cells c el true) =>
            bif Nat.beq el e && Nat.blt 0 sz && Nat.beq a.off (Nat.mul (Nat.sub cap OPEN) sz) && Nat.ble (Nat.add a.off (Nat.mul r sz)) c.length && (Nat.blt l r || Nat.beq l 0) then
              some (.slice (some (addrAdd a (Nat.mul l sz))) (Nat.sub r l) (Nat.add cap l))
            else none
          | _, _ => none
        | _, _ => none
      else match bound fr mx cap with
        | none => none
        | some m => bif Nat.ble r m && Nat.ble m cap then
            match a with
            | none => some (.slice none (Nat.sub r l) (Nat.sub m l))
            | some a => bif a.spot.isNone then some (.slice (some (bif Nat.beq m l then a else addrAdd a (Nat.mul l sz))) (Nat.sub r l) (Nat.sub m l)) else none
          else none
      else none
    | _, _, _ => none
  | _, _ => none

/-- a slice of nothing behind the end of an open row: only the machine knows where it is -/
noncomputable def evGhost (h : Hp) (fr : Fr) (t : TypeId) (x : Value) (lo hi mx : Option Operand) : Option (Value × Hp) :=
  match P.underlying t, x, mx with
  | some (.slice e), .slice (some a) len cap, none =>
    match szOf P e, bound fr lo 0, bound fr hi len with
    | some sz, some l, some r =>
      bif Nat.beq l r && Nat.ble OPEN cap then
        match a.spot, h.get a.block with
        | none, some (.cells c el true) =>
          bif Nat.beq el e && Nat.blt 0 sz && Nat.beq a.off (Nat.mul (Nat.sub cap OPEN) sz) && Nat.ble (Nat.add a.off (Nat.mul r sz)) c.length then
            some (.slice (some ⟨h.next, 0, some 0⟩) 0 OPEN, ⟨h.t, Nat.add h.next 1, h.low⟩)
          else none
        | _, _ => none
      else none
    | _, _, _ => none
  | _, _, _ => none

/-- the cells of a slice's first `n` elements -/
noncomputable def cellsAt (h : Hp) (a : Option Addr) (n : Nat) : Option (List Value) :=
  bif Nat.beq n 0 then some [] else
  match a with
  | none => none
  | some a => rd h a n

def bytesL (s : ByteArray) : List Value := s.data.toList.map fun b => .int .u8 (.ofNat b.toNat)

/-- the cells that are appended, and how many elements they are -/
noncomputable def newOf (h : Hp) (t' : TypeId) (e sz by_ : Nat) (x : Value) : Option (Nat × List Value) :=
  match P.underlying t', x with
  | some (.slice _), .slice xb n _ => match cellsAt h xb (Nat.mul n sz) with
    | none => none
    | some l => some (n, l)
  | some (.int _), .int _ (.ofNat n) => bif Nat.ble n 65536 && Nat.ble (Nat.mul n by_) 281474976710656 then match zeroL P e with
    | none => none
    | some z => bif Nat.beq z.length sz then some (n, repeatL z n) else none
    else none
  | some .string, .string s => bif Nat.beq sz 1 then some (s.size, bytesL s) else none
  | _, _ => none

noncomputable def roomOk (by_ need : Nat) : Bool := Nat.ble need 1099511627776 && Nat.ble (Nat.mul (Nat.add (Nat.mul 4 need) 2000) by_) 281474976710656

/-- append to a slice of an open row -/
noncomputable def evAppOpen (h : Hp) (e : TypeId) (sz by_ : Nat) (base : Option Addr) (sl cap n : Nat) (new : List Value) : Option (Value × Hp) :=
  match base with
  | none => none
  | some a =>
    match a.spot, h.get a.block with
    | none, some (.cells c el true) =>
      bif Nat.beq el e && Nat.blt 0 sz && Nat.beq a.off (Nat.mul (Nat.sub cap OPEN) sz) then
        bif Nat.ble (Nat.add a.off (Nat.mul (Nat.add sl n) sz)) c.length then
          match wr h (addrAdd a (Nat.mul sl sz)) new with
          | some h => some (.slice base (Nat.add sl n) cap, h)
          | none => none
        else
          match zeroL P e with
          | some z =>
            bif not (Nat.blt a.block h.low) && Nat.beq (Nat.mul sl sz) c.length && Nat.beq cap OPEN && Nat.beq z.length sz && roomOk by_ (Nat.add sl n) then
              some (.slice (some ⟨h.next, 0, none⟩) (Nat.add sl n) OPEN, (h.put a.block none).new (.cells (c ++ new) el true))
            else none
          | none => none
      else none
    | _, _ => none

noncomputable def evAppend (h : Hp) (t t' : TypeId) (s x : Value) : Option (Value × Hp) :=
  match P.underlying t, s with
  | some (.slice e), .slice base sl cap =>
    match szOf P e, bytesOf P e with
    | some sz, some by_ =>
      match newOf P h t' e sz by_ x with
      | none => none
      | some (n, new) =>
        bif Nat.ble OPEN cap then evAppOpen P h e sz by_ base sl cap n new
        else bif Nat.ble (Nat.add sl n) cap then
          bif Nat.beq n 0 then some (.slice base (Nat.add sl n) cap, h) else
          match base with
          | none => none
          | some a =>
            bif a.spot.isNone then
              match wr h (addrAdd a (Nat.mul sl sz)) new with
              | none => none
              | some h => some (.slice base (Nat.add sl n) cap, h)
            else none
        else
          match zeroL P e, cellsAt h base (Nat.mul sl sz) with
          | some z, some old =>
            bif Nat.beq z.length sz && roomOk by_ (Nat.add sl n) then some (.slice (some ⟨h.next, 0, none⟩) (Nat.add sl n) OPEN, h.new (.cells (old ++ new) e true)) else none
          | _, _ => none
    | _, _ => none
  | _, _ => none

noncomputable def evLen (h : Hp) (t : TypeId) (x : Value) : Option Nat :=
  match P.underlying t, x with
  | some (.map _ _), .map none => some 0
  | some (.map _ _), .map (some r) => match h.get r with | some (.map es _) => some es.length | _ => none
  | some .string, .string s => some s.size
  | some (.array n _), _ => some n
  | some (.slice _), .slice _ n _ => some n
  | _, _ => none

/-! maps -/
noncomputable def keyCell (t : TypeId) (v : Value) : Bool :=
  match P.underlying t, v with
  | some .bool, .bool _ => true
  | some (.int _), .int _ _ => true
  | some .string, .string _ => true
  | _, _ => false
noncomputable def keyFields (cs : List Value) : List Field → Bool
  | [] => true
  | f :: fs => not (f.name == "_") && (match isAggT P f.type, cs[f.offset]? with | some false, some x => keyCell P f.type x | _, _ => false) && keyFields cs fs
noncomputable def keyOk (t : TypeId) (v : Value) : Bool :=
  match v with
  | .agg cs => match P.underlying t with
    | some (.struct fs) => cs.toList.all plainCell && keyFields P cs.toList fs.toList
    | _ => false
  | v => keyCell P t v
noncomputable def sameCell (x y : Value) : Bool :=
  match x, y with
  | .bool a, .bool b => a == b
  | .int j a, .int k b => eqK j k && a == b
  | .string a, .string b => eqBL a.data.toList b.data.toList
  | _, _ => false
noncomputable def sameCells : List Value → List Value → Bool
  | [], [] => true
  | x :: xs, y :: ys => sameCell x y && sameCells xs ys
  | _, _ => false
noncomputable def sameKey (x y : Value) : Bool :=
  match x, y with
  | .agg a, .agg b => sameCells a.toList b.toList
  | x, y => sameCell x y
/-- where the key stands -/
noncomputable def findE (kt : TypeId) (k : Value) : List (Value × Value × Nat) → Nat → Option (Option (Nat × Value × Nat))
  | [], _ => some none
  | e :: es, i => match evEq P kt k e.1 with
    | some true => bif sameKey e.1 k then some (some (i, e.2)) else none
    | some false => findE kt k es (Nat.add i 1)
    | none => none
noncomputable def zeroV (t : TypeId) : Option Value :=
  match P.info? t with
  | none => none
  | some i => match i.zero with
    | none => none
    | some z => bif plain z then some z else none
noncomputable def setAt (i : Nat) (v : Value) : List (Value × Value × Nat) → List (Value × Value × Nat)
  | [] => []
  | e :: es => match i with
    | 0 => (e.1, v, e.2.2) :: es
    | i + 1 => e :: setAt i v es
noncomputable def dropAt (i : Nat) : List (Value × Value × Nat) → List (Value × Value × Nat)
  | [] => []
  | e :: es => match i with
    | 0 => es
    | i + 1 => e :: dropAt i es
/-- the entries of a map that may be written -/
noncomputable def mapOf (h : Hp) (m : Value) : Option (Nat × List (Value × Value × Nat) × Nat) :=
  match m with
  | .map (some r) => match h.get r with
    | some (.map es clock) => bif Nat.blt r h.low then none else some (r, es, clock)
    | _ => none
  | _ => none
noncomputable def evDelete (h : Hp) (t : TypeId) (m k : Value) : Option (Value × Hp) :=
  match P.underlying t with
  | some (.map kt _) => bif keyOk P kt k then match m with
    | .map none => some (.tuple #[], h)
    | m => match mapOf h m with
      | none => none
      | some (r, es, clock) => match findE P kt k es 0 with
        | none => none
        | some none => some (.tuple #[], h)
        | some (some (i, _)) => some (.tuple #[], h.put r (some (.map (dropAt i es) clock)))
    else none
  | _ => none
noncomputable def evBuiltin (h : Hp) (b : Builtin) (argTypes : List TypeId) (args : List Value) : Option (Value × Hp) :=
  match b, argTypes, args with
  | .len, t :: _, x :: _ => match evLen P h t x with | none => none | some n => some (.int .i64 (.ofNat n), h)
  | .cap, t :: _, x :: _ => match P.underlying t, x with
    | some (.slice _), .slice _ _ c => bif Nat.ble OPEN c then none else some (.int .i64 (.ofNat c), h)
    | _, _ => none
  | .append, t :: t' :: _, s :: x :: _ => evAppend P h t t' s x
  | .delete, t :: _, m :: k :: _ => evDelete P h t m k
  | .max, _, [.int k x, .int _ y] => some (.int k (if y > x then y else x), h)
  | .min, _, [.int k x, .int _ y] => some (.int k (if y < x then y else x), h)
  | .clear, t :: _, x :: _ => match P.underlying t, x with
    | some (.slice e), .slice (some a) n _ =>
      bif Nat.beq n 0 then some (.tuple #[], h) else
      match zeroL P e with
      | some z => match wr h a (repeatL z n) with | none => none | some h => some (.tuple #[], h)
      | none => none
    | some (.slice _), .slice none _ _ => some (.tuple #[], h)
    | _, _ => none
  | _, _, _ => none

noncomputable def methodOf (t : TypeId) (name : String) : Option FuncId :=
  match P.info? t with
  | none => none
  | some i => match i.methods.toList.find? (·.name == name) with
    | none => none
    | some m => match m.path.toList, m.func, P.underlying t with
      | [], some (_, false), some (.pointer _) => none
      | [], some (f, false), some _ => some f
      | [], some (f, true), some (.pointer _) => some f
      | _, _, _ => none

abbrev CallF := Fn → List Value → Hp → Option (Value × Hp)

noncomputable def evCallee (call : CallF) (fr : Fr) (h : Hp) (c : Call) : Option (Value × Hp) :=
  match lookAll fr c.args.toList with
  | none => none
  | some args =>
    match c.callee with
    | .builtin b => evBuiltin P h b c.argTypes.toList args
    | .value f => match look fr f with
      | some (.func (.func f) first captured) => call (.func f) (first.toList ++ (args ++ captured.toList)) h
      | some (.func (.yield l) first _) => call (.yield l) (first.toList ++ args) h
      | _ => none
    | .invoke r name => match look fr r with
      | some (.iface t v) => match methodOf P t name with
        | none => none
        | some f => call (.func f) (v :: args) h
      | _ => none

end
noncomputable def oMove (x : Operand) (_P : Program) (_call : CallF) (fr : Fr) (h : Hp) : Option (Value × Hp) :=
  Option.rec (motive := fun _ => Option (Value × Hp)) none (fun v => some (v, h)) (look fr x)

noncomputable def oPick (c : Operand) (a : Operand) (b : Operand) (P : Program) (call : CallF) (fr : Fr) (h : Hp) : Option (Value × Hp) :=
  match look fr c with
    | some (.bool true) => match look fr a with | none => none | some v => some (v, h)
    | some (.bool false) => match look fr b with | none => none | some v => some (v, h)
    | _ => none
noncomputable def oBinOp (op : BinOp) (t : TypeId) (x : Operand) (y : Operand) (_yt : TypeId) (P : Program) (call : CallF) (fr : Fr) (h : Hp) : Option (Value × Hp) :=
  match look fr x, look fr y with
    | some a, some b => match evBin P op t a b with | none => none | some v => some (v, h)
    | _, _ => none
noncomputable def oLoad (t : TypeId) (a : Operand) (P : Program) (call : CallF) (fr : Fr) (h : Hp) : Option (Value × Hp) :=
  match look fr a with
    | some (.pointer (some a)) => match loadA P h t a with | none => none | some v => some (v, h)
    | _ => none
noncomputable def oStore (t : TypeId) (a : Operand) (x : Operand) (P : Program) (call : CallF) (fr : Fr) (h : Hp) : Option (Value × Hp) :=
  match look fr a, look fr x with
    | some (.pointer (some a)), some v => match storeA P h t a v with | none => none | some h => some (undef, h)
    | _, _ => none
noncomputable def oFieldAddr (s : TypeId) (x : Operand) (i : Nat) (P : Program) (call : CallF) (fr : Fr) (h : Hp) : Option (Value × Hp) :=
  match P.underlying s, look fr x with
    | some (.struct fs), some (.pointer (some a)) => match fs.toList[i]? with
      | none => none
      | some f => match szOf P f.type with
        | some (_ + 1) => bif a.spot.isNone then some (.pointer (some (bif Nat.beq f.offset 0 then a else addrAdd a f.offset)), h) else none
        | _ => none
    | _, _ => none
noncomputable def oIndexAddr (t : TypeId) (x : Operand) (i : Operand) (P : Program) (call : CallF) (fr : Fr) (h : Hp) : Option (Value × Hp) :=
  match P.underlying t, look fr x, look fr i with
    | some (.slice e), some (.slice (some a) len _), some (.int _ (.ofNat n)) =>
      match szOf P e with
      | none => none
      | some sz => bif Nat.blt n len && a.spot.isNone then some (.pointer (some (addrAdd a (Nat.mul n sz))), h) else none
    | some (.array len e), some (.pointer (some a)), some (.int _ (.ofNat n)) =>
      match szOf P e with
      | none => none
      | some sz => bif Nat.blt n len && a.spot.isNone then some (.pointer (some (addrAdd a (Nat.mul n sz))), h) else none
    | _, _, _ => none
noncomputable def oIndex (t : TypeId) (x : Operand) (i : Operand) (P : Program) (call : CallF) (fr : Fr) (h : Hp) : Option (Value × Hp) :=
  match P.underlying t, look fr x, look fr i with
    | some .string, some (.string s), some (.int _ (.ofNat n)) => match s.data.toList[n]? with
      | none => none
      | some b => some (.int .u8 (.ofNat b.toNat), h)
    | some (.array len e), some (.agg cs), some (.int _ (.ofNat n)) =>
      match szOf P e, isAggT P e with
      | some sz, some true => bif Nat.blt n len then some (.agg ⟨(cs.toList.drop (Nat.mul n sz)).take sz⟩, h) else none
      | some sz, some false => bif Nat.blt n len then match cs.toList[Nat.mul n sz]? with | none => none | some v => some (v, h) else none
      | _, _ => none
    | _, _, _ => none
noncomputable def oField (t : TypeId) (x : Operand) (i : Nat) (P : Program) (call : CallF) (fr : Fr) (h : Hp) : Option (Value × Hp) :=
  match P.underlying t, look fr x with
    | some (.struct fs), some (.agg cs) => match fs.toList[i]? with
      | none => none
      | some f => match szOf P f.type, isAggT P f.type with
        | some sz, some true => some (.agg ⟨(cs.toList.drop f.offset).take sz⟩, h)
        | some _, some false => match cs.toList[f.offset]? with | none => none | some v => some (v, h)
        | _, _ => none
    | _, _ => none
noncomputable def oAlloc (t : TypeId) (P : Program) (call : CallF) (fr : Fr) (h : Hp) : Option (Value × Hp) :=
  match zeroL P t with
    | none => none
    | some z => some (newPtr h, h.new (.cells z t false))
noncomputable def oBox (t : TypeId) (x : Operand) (P : Program) (call : CallF) (fr : Fr) (h : Hp) : Option (Value × Hp) :=
  match look fr x with
    | none => none
    | some (.tuple _) => none
    | some v => some (newPtr h, h.new (.cells v.cells.toList t false))
noncomputable def oBuild (t : TypeId) (parts : Array (Nat × Operand)) (P : Program) (call : CallF) (fr : Fr) (h : Hp) : Option (Value × Hp) :=
  match P.underlying t, zeroL P t, lookParts fr parts.toList with
    | some (.struct fs), some z, some ps => match placesOf P fs.toList with
      | none => none
      | some pl => match fillL (fun i => pl[i]?) z ps with
        | none => none
        | some cs => some (.agg ⟨cs⟩, h)
    | some (.array _ e), some z, some ps => match szOf P e with
      | none => none
      | some sz => match fillL (fun i => some (Nat.mul i sz, sz)) z ps with
        | none => none
        | some cs => some (.agg ⟨cs⟩, h)
    | _, _, _ => none
noncomputable def oBuildSlice (t : TypeId) (len : Nat) (parts : Array (Nat × Operand)) (P : Program) (call : CallF) (fr : Fr) (h : Hp) : Option (Value × Hp) :=
  match P.underlying t, lookParts fr parts.toList with
    | some (.slice e), some ps => match szOf P e, zeroL P e with
      | some sz, some z =>
        bif Nat.ble (Nat.mul len sz) 16777216 && Nat.beq z.length sz && Nat.ble len 16777216 then
        match fillL (fun i => some (Nat.mul i sz, sz)) (repeatL z len) ps with
        | none => none
        | some cs => some (.slice (some ⟨h.next, 0, none⟩) len len, h.new (.cells cs e false))
        else none
      | _, _ => none
    | _, _ => none
noncomputable def oMakeSlice (t : TypeId) (l : Operand) (c : Operand) (P : Program) (call : CallF) (fr : Fr) (h : Hp) : Option (Value × Hp) :=
  match P.underlying t, look fr l, look fr c with
    | some (.slice e), some (.int .i64 (.ofNat l)), some (.int .i64 (.ofNat c)) =>
      match szOf P e, zeroL P e, bytesOf P e with
      | some sz, some z, some b =>
        bif Nat.ble l c && Nat.ble c 1048576 && Nat.beq z.length sz && Nat.ble (Nat.mul b c) 281474976710656 then
          some (.slice (some ⟨h.next, 0, none⟩) l c, h.new (.cells (repeatL z c) e false))
        else none
      | _, _, _ => none
    | _, _, _ => none
noncomputable def oNilCheck (x : Operand) (P : Program) (call : CallF) (fr : Fr) (h : Hp) : Option (Value × Hp) :=
  match look fr x with
    | some (.pointer (some a)) => some (.pointer (some a), h)
    | some (.func (.func f) a b) => some (.func (.func f) a b, h)
    | some (.func (.yield f) a b) => some (.func (.yield f) a b, h)
    | some (.iface t v) => some (.iface t v, h)
    | _ => none
noncomputable def oUnOp (op : UnOp) (_t : TypeId) (x : Operand) (P : Program) (call : CallF) (fr : Fr) (h : Hp) : Option (Value × Hp) :=
  match look fr x with
    | some (.bool b) => match val? (Op.unary op (.bool b)) with | none => none | some v => some (v, h)
    | some (.int k n) => match val? (Op.unary op (.int k n)) with | none => none | some v => some (v, h)
    | _ => none
/-- the bytes of cells -/
noncomputable def strOf : List Value → Option (List UInt8)
  | [] => some []
  | .int .u8 n :: vs => match strOf vs with | none => none | some b => some (UInt8.ofNat n.toNat :: b)
  | _ :: _ => none
noncomputable def oConvert (s : TypeId) (d : TypeId) (x : Operand) (P : Program) (call : CallF) (fr : Fr) (h : Hp) : Option (Value × Hp) :=
  match P.underlying s, P.underlying d, look fr x with
    | some _, some (.int k), some (.int _ n) => some (.int k (wrapI k n), h)
    | some .string, some .string, some (.string b) => some (.string b, h)
    | some (.slice el), some .string, some (.slice x l _) => match P.underlying el, x with
      | some (.int .u8), none => some (.string ⟨#[]⟩, h)
      | some (.int .u8), some a => match rd h a l with
        | none => none
        | some vs => match strOf vs with
          | none => none
          | some b => some (.string ⟨⟨b⟩⟩, h)
      | _, _ => none
    | _, _, _ => none
noncomputable def oMakeInterface (t : TypeId) (x : Operand) (P : Program) (call : CallF) (fr : Fr) (h : Hp) : Option (Value × Hp) :=
  match P.underlying t, look fr x with
    | some (.interface _), _ => none
    | some _, some v => some (.iface t v, h)
    | _, _ => none
noncomputable def oMakeFunc (fn : Fn) (first : Array Operand) (captured : Array Operand) (P : Program) (call : CallF) (fr : Fr) (h : Hp) : Option (Value × Hp) :=
  match fn with
  | .yield _ => none
  | fn => match lookAll fr first.toList, lookAll fr captured.toList with
    | some a, some b => some (.func fn ⟨a⟩ ⟨b⟩, h)
    | _, _ => none
noncomputable def oSlice (t : TypeId) (x : Operand) (lo : Option Operand) (hi : Option Operand) (mx : Option Operand) (P : Program) (call : CallF) (fr : Fr) (h : Hp) : Option (Value × Hp) :=
  match look fr x with
    | none => none
    | some x => match evSlice P h fr t x lo hi mx with | none => evGhost P h fr t x lo hi mx | some v => some (v, h)
noncomputable def oExtract (x : Operand) (i : Nat) (P : Program) (call : CallF) (fr : Fr) (h : Hp) : Option (Value × Hp) :=
  match look fr x with
    | some (.tuple vs) => match vs.toList[i]? with | none => none | some v => some (v, h)
    | _ => none
noncomputable def oCall (c : Call) (P : Program) (call : CallF) (fr : Fr) (h : Hp) : Option (Value × Hp) :=
  evCallee P call fr h c

noncomputable def oMakeMap (t : TypeId) (reserve : Option Operand) (P : Program) (call : CallF) (fr : Fr) (h : Hp) : Option (Value × Hp) :=
  match reserve with
  | none => some (.map (some h.next), h.new (.map [] 0))
  | some x => match P.underlying t, look fr x with
    | some (.map _ _), some (.int _ _) => some (.map (some h.next), h.new (.map [] 0))
    | _, _ => none
noncomputable def oLookup (t : TypeId) (m : Operand) (k : Operand) (commaOk : Bool) (P : Program) (call : CallF) (fr : Fr) (h : Hp) : Option (Value × Hp) :=
  match P.underlying t, look fr m, look fr k with
  | some (.map kt et), some (.map r), some k => bif keyOk P kt k then
      match (match r with
        | none => some []
        | some r => match h.get r with
          | some (.map es _) => some es
          | _ => none) with
      | none => none
      | some es => match findE P kt k es 0 with
        | none => none
        | some (some (_, v, _)) => some (bif commaOk then .tuple #[v, .bool true] else v, h)
        | some none => match zeroV P et with
          | none => none
          | some z => some (bif commaOk then .tuple #[z, .bool false] else z, h)
    else none
  | _, _, _ => none
noncomputable def oMapUpdate (t : TypeId) (m : Operand) (k : Operand) (v : Operand) (P : Program) (call : CallF) (fr : Fr) (h : Hp) : Option (Value × Hp) :=
  match P.underlying t, look fr m, look fr k, look fr v with
  | some (.map kt _), some m, some k, some v => bif keyOk P kt k then match mapOf h m with
      | none => none
      | some (r, es, clock) => match findE P kt k es 0 with
        | none => none
        | some none => some (undef, h.put r (some (.map (es ++ [(k, v, clock)]) (Nat.add clock 1))))
        | some (some (i, _)) => some (undef, h.put r (some (.map (setAt i v es) clock)))
    else none
  | _, _, _, _ => none
noncomputable def oMapEntry (t : TypeId) (m : Operand) (k : Operand) (P : Program) (call : CallF) (fr : Fr) (h : Hp) : Option (Value × Hp) :=
  match P.underlying t, look fr m, look fr k with
  | some (.map kt et), some m, some k => bif keyOk P kt k then match mapOf h m with
      | none => none
      | some (r, es, clock) => match findE P kt k es 0 with
        | none => none
        | some none => match zeroV P et with
          | none => none
          | some z => some (.tuple #[z, .int .i64 (.ofNat clock)], h.put r (some (.map (es ++ [(k, z, clock)]) (Nat.add clock 1))))
        | some (some (_, v, b)) => some (.tuple #[v, .int .i64 (.ofNat b)], h)
    else none
  | _, _, _ => none
noncomputable def bornAt (b : Nat) : List (Value × Value × Nat) → Nat → Option Nat
  | [], _ => none
  | e :: es, i => bif Nat.beq e.2.2 b then some i else bornAt b es (Nat.add i 1)
noncomputable def oEntryStore (t : TypeId) (m : Operand) (st : Operand) (v : Operand) (P : Program) (call : CallF) (fr : Fr) (h : Hp) : Option (Value × Hp) :=
  match look fr m, look fr st, look fr v with
  | some m, some (.int _ (.ofNat b)), some v => match mapOf h m with
      | none => none
      | some (r, es, clock) => match bornAt b es 0 with
        | none => none
        | some i => some (undef, h.put r (some (.map (setAt i v es) clock)))
  | _, _, _ => none
noncomputable def oRange (t : TypeId) (x : Operand) (P : Program) (call : CallF) (fr : Fr) (h : Hp) : Option (Value × Hp) :=
  match P.underlying t, look fr x with
  | some (.map _ _), some (.map none) => some (newPtr h, h.new (.iter none 0 [] 0))
  | some (.map _ _), some (.map (some m)) => match h.get m with
    | some (.map _ clock) => some (newPtr h, h.new (.iter (some m) clock [] clock))
    | _ => none
  | _, _ => none
noncomputable def memN (n : Nat) (l : List Nat) : Bool := l.any fun x => Nat.beq x n
noncomputable def leftOf (seen : List Nat) (es : List (Value × Value × Nat)) : List (Value × Value × Nat) := es.filter fun e => not (memN e.2.2 seen)
noncomputable def oNext (it : Operand) (isString : Bool) (P : Program) (call : CallF) (fr : Fr) (h : Hp) : Option (Value × Hp) :=
  match isString, look fr it with
  | false, some (.pointer (some a)) => bif Nat.beq a.off 0 && a.spot.isNone && not (Nat.blt a.block h.low) then match h.get a.block with
    | some (.iter none _ _ _) => some (.tuple #[.bool false], h)
    | some (.iter (some m) since seen last) => match h.get m with
      | some (.map es clock) =>
        bif not seen.isEmpty && not es.isEmpty && es.all (fun e => Nat.ble last e.2.2) then none else
        match leftOf seen es with
        | [] => some (.tuple #[.bool false], h)
        | [e] => bif Nat.blt e.2.2 since then some (.tuple #[.bool true, e.1, e.2.1], h.put a.block (some (.iter (some m) since (seen ++ [e.2.2]) clock))) else none
        | _ => none
      | _ => none
    | _ => none
    else none
  | _, _ => none
noncomputable def lastOf : List Nat → Option Nat
  | [] => none
  | [x] => some x
  | _ :: l => lastOf l
noncomputable def bornE (b : Nat) : List (Value × Value × Nat) → Option (Value × Value × Nat)
  | [] => none
  | e :: es => bif Nat.beq e.2.2 b then some e else bornE b es
noncomputable def oEntry (it : Operand) (P : Program) (call : CallF) (fr : Fr) (h : Hp) : Option (Value × Hp) :=
  match look fr it with
  | some (.pointer (some a)) => bif Nat.beq a.off 0 && a.spot.isNone then match h.get a.block with
    | some (.iter (some m) _ seen stepped) => match lastOf seen, h.get m with
      | some b, some (.map es clock) => bif Nat.beq clock stepped then match bornE b es with
        | some e => some (.tuple #[e.1, e.2.1], h)
        | none => none
        else none
      | _, _ => none
    | _ => none
    else none
  | _ => none
noncomputable def oTypeAssert (x : Operand) (xt : TypeId) (t : TypeId) (commaOk : Bool) (P : Program) (call : CallF) (fr : Fr) (h : Hp) : Option (Value × Hp) :=
  match P.underlying t, look fr x with
  | some (.interface _), _ => none
  | some _, some .nilIface => bif commaOk then match zeroV P t with
    | none => none
    | some z => some (.tuple #[z, .bool false], h)
    else none
  | some _, some (.iface d v) => bif Nat.beq d t then some (bif commaOk then .tuple #[v, .bool true] else v, h) else bif commaOk then match zeroV P t with
    | none => none
    | some z => some (.tuple #[z, .bool false], h)
    else none
  | _, _ => none
noncomputable def oNone (_ : Program) (_ : CallF) (_ : Fr) (_ : Hp) : Option (Value × Hp) := none
section
variable (P : Program)
noncomputable def evOp (call : CallF) (o : Oper) (fr : Fr) (h : Hp) : Option (Value × Hp) :=
  (Op.rec (motive := fun _ => Program → CallF → Fr → Hp → Option (Value × Hp))
    oMove oMove oPick oAlloc oBox oBuild oBuildSlice (fun _ _ _ _ => oNone) oLoad oStore (fun _ => oNone) (fun _ => oNone) oNilCheck oBinOp oUnOp oConvert (fun _ _ => oNone) oMakeInterface oMakeFunc oMakeMap (fun _ _ => oNone) oMakeSlice oSlice oFieldAddr oField oIndexAddr oIndex oLookup oMapUpdate oMapEntry oEntryStore oRange oNext oEntry oTypeAssert oExtract oCall (fun _ => oNone) (fun _ => oNone) (fun _ => oNone) (fun _ _ => oNone) (fun _ _ _ => oNone) (fun _ _ => oNone) o.op) P call fr h

noncomputable def wBool (v : Value) (want : Bool) : Option Bool := match v with
  | .bool b => some (Bool.rec (Bool.rec true false want) want b)
  | .tuple _ => some false
  | _ => none
noncomputable def wGuard (g : Nat × Bool) (all : List Oper) (fr : Fr) : Option Bool :=
  match all[g.1]? with
    | some { dst := some d, .. } => match fr.get d with
      | some v => wBool v g.2
      | _ => none
    | _ => none
noncomputable def wNone (_ : List Oper) (_ : Fr) : Option Bool := some true
noncomputable def wantedE (all : List Oper) (o : Oper) (fr : Fr) : Option Bool :=
  (Option.rec (motive := fun _ => List Oper → Fr → Option Bool) wNone wGuard o.guard) all fr

abbrev KOps := Fr → Hp → Option (Fr × Hp)
noncomputable def stepB (b : Bool) : Program → CallF → Oper → KOps → Fr → Hp → Option (Fr × Hp) :=
  Bool.rec (motive := fun _ => Program → CallF → Oper → KOps → Fr → Hp → Option (Fr × Hp))
    (fun _ _ o ih fr h => ih (putT fr o.dst undef) h)
    (fun P call o ih fr h => Option.rec (motive := fun _ => Option (Fr × Hp)) none (fun p => ih (putT fr o.dst p.1) p.2) (evOp P call o fr h)) b
noncomputable def stepN : Program → CallF → Oper → KOps → Fr → Hp → Option (Fr × Hp) := fun _ _ _ _ _ _ => none
noncomputable def evOps (call : CallF) (all : List Oper) (l : List Oper) : Fr → Hp → Option (Fr × Hp) :=
  List.rec (motive := fun _ => Fr → Hp → Option (Fr × Hp)) (fun fr h => some (fr, h))
  (fun o _ ih fr h => (Option.rec (motive := fun _ => Program → CallF → Oper → KOps → Fr → Hp → Option (Fr × Hp)) stepN stepB (wantedE all o fr)) P call o ih fr h) l

/-! regions that draw their order -/

/-- does the operation look at the memory, or write it -/
def heapy : Op → Bool
  | .convert _ d _ => Nat.beq d 9
  | .move _ | .assign _ | .pick .. | .binOp .. | .unOp .. | .makeInterface .. | .makeFunc .. | .fieldAddr .. | .field .. | .indexAddr .. | .index .. | .extract .. | .nilCheck _ | .build .. => false
  | .call { callee := .builtin .len, .. } | .call { callee := .builtin .max, .. } | .call { callee := .builtin .min, .. } => false
  | _ => true
noncomputable def maskOf (acc : List Nat) : List Edge → Nat
  | [] => 0
  | e :: es => bif Region.binds .any e then Nat.lor (Nat.lor (Nat.pow 2 e.on) (acc.getD e.on 0)) (maskOf acc es) else maskOf acc es
/-- which operations come before each -/
noncomputable def masks : List Oper → List Nat → List Nat
  | [], acc => acc
  | o :: os, acc => masks os (acc ++ [maskOf acc o.after.toList])
noncomputable def pairOk (ops : Array Oper) (ms : List Nat) (i k : Nat) (oi ok : Oper) : Bool :=
  Nat.beq i k ||
  match ok.dst with
  | none => true
  | some d => !(oi.dst == some d) && (!(oi.looksAt ops).contains d || Nat.testBit (ms.getD i 0) k || Nat.testBit (ms.getD k 0) i)
noncomputable def drawOk (ops : Array Oper) (ms : List Nat) : Bool :=
  ops.toList.zipIdx.all fun oi => (oi.1.after.toList.all fun e => !Region.binds .any e || Nat.blt e.on oi.2) && ops.toList.zipIdx.all fun ok => pairOk ops ms oi.2 ok.2 oi.1 ok.1
/-- ordered against every other operation that looks at the memory -/
noncomputable def barrier (ops : Array Oper) (ms : List Nat) (i : Nat) : Bool :=
  ops.toList.zipIdx.all fun ok => Nat.beq ok.2 i || !heapy ok.1.op || Nat.testBit (ms.getD i 0) ok.2 || Nat.testBit (ms.getD ok.2 0) i
structure DStep where
  o : Oper
  i : Nat
  mask : Nat
  heapy : Bool
  barrier : Bool
  ban : List Nat
  own : Option Nat
/-- a store that is not ordered against all that looks at the memory -/
noncomputable def looseO (ops : Array Oper) (ms : List Nat) (o : Oper) (i : Nat) : Bool := match o.op with
  | .store _ _ _ => not (barrier ops ms i)
  | _ => false
/-- the rows that are written by stores that are not ordered against the operation -/
noncomputable def banOf (ms : List Nat) (i : Nat) (bn : List (Nat × Nat)) : List Nat :=
  bn.filterMap fun x => bif Nat.beq x.1 i || Nat.testBit (ms.getD i 0) x.1 || Nat.testBit (ms.getD x.1 0) i then none else some x.2
noncomputable def ownOf (i : Nat) : List (Nat × Nat) → Option Nat
  | [] => none
  | x :: rest => bif Nat.beq x.1 i then some x.2 else ownOf i rest
noncomputable def plan (ops : Array Oper) (ms : List Nat) (bn : List (Nat × Nat)) : List DStep :=
  ops.toList.zipIdx.map fun oi => ⟨oi.1, oi.2, ms.getD oi.2 0, heapy oi.1.op, barrier ops ms oi.2, banOf ms oi.2 bn, bif looseO ops ms oi.1 oi.2 then ownOf oi.2 bn else none⟩
/-- the state: the frame, the memory, and what it was ahead of each operation that turned it -/
structure DS where
  fr : Fr
  cur : Hp
  hist : List (Nat × Hp)
noncomputable def back (mask : Nat) : List (Nat × Hp) → Hp → Hp
  | [], g => g
  | x :: rest, g => bif Nat.testBit mask x.1 then g else back mask rest x.2
/-- an operation that makes a new row and looks at nothing: it may be done early -/
def floatsOp : Op → Bool
  | .alloc _ => true
  | .makeMap _ none => true
  | _ => false
/-- is the value of a place an empty struct that the region builds -/
def madeZ (all : List Oper) (t : Tmp) : Bool := all.any fun b => (match b.dst with | some d => Nat.beq d t | none => false) && (match b.op with | .build _ ps => ps.toList.isEmpty | _ => false)
def floatsBox (all : List Oper) : Op → Bool
  | .box _ (.tmp t) => madeZ all t
  | _ => false
def floats (all : List Oper) (o : Oper) : Bool := (floatsOp o.op || floatsBox all o.op) && o.guard.isNone
noncomputable def fltAt (all : List Oper) (i : Nat) : Bool := match all[i]? with | some o => floats all o | none => false
noncomputable def isCur (all : List Oper) (mask : Nat) : List (Nat × Hp) → Bool
  | [] => true
  | x :: rest => Nat.testBit mask x.1 && bif fltAt all x.1 then isCur all mask rest else true
/-- what comes before is all done -/
noncomputable def backOk (all : List Oper) (mask : Nat) : List (Nat × Hp) → Bool
  | [] => true
  | x :: rest => bif Nat.testBit mask x.1 then (bif fltAt all x.1 then isCur all mask rest else true) else backOk all mask rest
noncomputable def doneD (all : List Oper) (s : DStep) (st : DS) (g : Hp) (r : Option (Value × Hp)) : Option DS :=
  match r with
  | none => none
  | some (v, h') =>
    bif backOk all s.mask st.hist then
    bif (not s.heapy || not s.barrier) && Nat.beq h'.next g.next then some ⟨putT st.fr s.o.dst v, st.cur, st.hist⟩
    else bif s.heapy && isCur all s.mask st.hist && s.ban.isEmpty then some ⟨putT st.fr s.o.dst v, ⟨h'.t, h'.next, st.cur.low⟩, (s.i, st.cur) :: st.hist⟩ else none
    else none
noncomputable def without (t : T Blk) : List Nat → T Blk
  | [] => t
  | b :: bs => (without t bs).set b none
noncomputable def viewD (s : DStep) (g : Hp) : Hp := ⟨bif s.heapy then without g.t s.ban else .leaf, g.next, bif s.heapy && s.barrier then g.low else g.next⟩
noncomputable def runD (call : CallF) (all : List Oper) (s : DStep) (st : DS) (g : Hp) : Option DS := doneD all s st g (evOp P call s.o st.fr (viewD s g))
/-- a store that others need not wait for: only its own row is written -/
noncomputable def looseD (call : CallF) (all : List Oper) (s : DStep) (st : DS) (b : Nat) : Option DS :=
  bif s.heapy && isCur all s.mask st.hist && s.ban.isEmpty then
    match s.o.op with
    | .store _ x _ => match look st.fr x with
      | some (.pointer (some a)) => bif Nat.beq a.block b then match evOp P call s.o st.fr st.cur with
        | none => none
        | some (v, h') => some ⟨putT st.fr s.o.dst v, ⟨h'.t, h'.next, st.cur.low⟩, (s.i, st.cur) :: st.hist⟩
        else none
      | _ => none
    | _ => none
  else none
/-- what a box that may be made early looks at -/
noncomputable def calm (fr : Fr) : Op → Bool
  | .box _ x => match look fr x with
    | some (.agg cs) => cs.toList.all plainCell
    | _ => false
  | _ => true
noncomputable def noneIn (mask : Nat) : List (Nat × Hp) → Bool
  | [] => true
  | x :: rest => not (Nat.testBit mask x.1) && noneIn mask rest
/-- a row that may be made early -/
noncomputable def floatD (call : CallF) (s : DStep) (st : DS) : Option DS :=
  bif calm st.fr s.o.op && noneIn s.mask st.hist then match evOp P call s.o st.fr st.cur with
  | none => none
  | some (v, h') => some ⟨putT st.fr s.o.dst v, ⟨h'.t, h'.next, st.cur.low⟩, (s.i, st.cur) :: st.hist⟩
  else none
noncomputable def stepD (call : CallF) (all : List Oper) (s : DStep) (st : DS) : Option DS :=
  match wantedE all s.o st.fr with
  | none => none
  | some false => bif backOk all s.mask st.hist then some ⟨putT st.fr s.o.dst undef, st.cur, st.hist⟩ else none
  | some true => bif floats all s.o then floatD P call s st else match s.own with
    | some b => looseD P call all s st b
    | none => runD P call all s st (back s.mask st.hist st.cur)
noncomputable def evD (call : CallF) (all : List Oper) (l : List DStep) : DS → Option DS :=
  List.rec (motive := fun _ => DS → Option DS) some (fun s _ ih st => match stepD P call all s st with | none => none | some st' => ih st') l
/-- the rows that loose stores write, as a first run finds them -/
noncomputable def looseRows (ops : Array Oper) (ms : List Nat) (fr : Fr) (l : List (Oper × Nat)) : List (Nat × Nat) :=
  l.filterMap fun oi => bif looseO ops ms oi.1 oi.2 then (match oi.1.op with
    | .store _ x _ => (match look fr x with
      | some (.pointer (some a)) => some (oi.2, a.block)
      | _ => none)
    | _ => none) else none
noncomputable def anyLoose (ops : Array Oper) (ms : List Nat) : Bool := ops.toList.zipIdx.any fun oi => looseO ops ms oi.1 oi.2
/-- the addresses of loose stores, found in a run in the order of the list -/
noncomputable def findD (call : CallF) (ops : Array Oper) (ms : List Nat) (fr : Fr) (h : Hp) : List (Nat × Nat) :=
  bif anyLoose ops ms then match evOps P call ops.toList ops.toList fr h with
    | none => []
    | some (fr', _) => looseRows ops ms fr' ops.toList.zipIdx
  else []
/-- a map that is made and waits for nothing: it is done as late as may be -/
noncomputable def lateO (o : Oper) : Bool := match o.op with
  | .makeMap _ none => o.guard.isNone && o.after.toList.isEmpty
  | _ => false
noncomputable def orderO (ops : Array Oper) (ms : List Nat) : List Nat → List Nat → List Nat
  | [], d => d
  | i :: is, d => bif (match ops.toList[i]? with | some o => lateO o | none => false) then orderO ops ms is (d ++ [i])
    else (d.filter fun k => Nat.testBit (ms.getD i 0) k) ++ i :: orderO ops ms is (d.filter fun k => not (Nat.testBit (ms.getD i 0) k))
noncomputable def placeO : List Nat → Nat → Nat
  | [], _ => 0
  | x :: xs, i => bif Nat.beq x i then 0 else Nat.add (placeO xs i) 1
/-- the operations in another order, their numbers turned -/
noncomputable def renO (p : List Nat) (o : Oper) : Oper := { o with after := ⟨o.after.toList.map fun e => { e with on := placeO p e.on }⟩, guard := (match o.guard with | none => none | some g => some (placeO p g.1, g.2)) }
noncomputable def atO (ops : Array Oper) (i : Nat) : Oper := match ops.toList[i]? with | some o => o | none => ⟨none, .move (.tmp 0), 0, "", #[], none⟩
noncomputable def turnO (ops : Array Oper) (p : List Nat) : Array Oper := ⟨p.map fun i => renO p (atO ops i)⟩
noncomputable def permOk (ops : Array Oper) (p : List Nat) : Bool :=
  Nat.beq p.length ops.size && (ops.toList.zipIdx.all fun oi => Nat.blt (placeO p oi.2) ops.size && (match p[placeO p oi.2]? with | some k => Nat.beq k oi.2 | none => false)) &&
  (p.zipIdx.all fun x => Nat.blt x.1 ops.size && Nat.beq (placeO p x.1) x.2) &&
  (ops.toList.all fun o => (o.after.toList.all fun e => Nat.blt e.on ops.size) && (match o.guard with | none => true | some g => Nat.blt g.1 ops.size))
noncomputable def anyLate (ops : Array Oper) : Bool := ops.toList.any lateO
noncomputable def orderOf (ops : Array Oper) : List Nat := orderO ops (masks ops.toList []) (List.range ops.size) []
noncomputable def evDraw (call : CallF) (ops : Array Oper) (ms : List Nat) (fr : Fr) (h : Hp) : Option (Fr × Hp) :=
  bif drawOk ops ms then
    match evD P call ops.toList (plan ops ms (findD P call ops ms fr h)) ⟨fr, h, []⟩ with
    | none => none
    | some st => some (st.fr, st.cur)
  else none

/-- a region that draws its order, done in an order of its own -/
noncomputable def evTurn (call : CallF) (ops : Array Oper) (p : List Nat) (fr : Fr) (h : Hp) : Option (Fr × Hp) :=
  bif permOk ops p then evDraw P call (turnO ops p) (masks (turnO ops p).toList []) fr h else none

inductive Out where
  | normal | exit (id : Nat) | ret

abbrev CodeF := Code → Fr → Hp → Option (Out × Fr × Hp)
abbrev KCode := Program → CallF → CodeF → Fr → Hp → Option (Out × Fr × Hp)
noncomputable def cSkip : KCode := fun _ _ _ fr h => some (.normal, fr, h)
noncomputable def cNone : KCode := fun _ _ _ _ _ => none
noncomputable def cRegion (_ : Nat) (ops : Array Oper) (draw : Bool) : KCode := fun P call _ fr h =>
  match (bif draw then (bif anyLate ops then evTurn P call ops (orderOf ops) fr h else evDraw P call ops (masks ops.toList []) fr h) else evOps P call ops.toList ops.toList fr h) with
      | none => none
      | some (fr, h) => some (.normal, fr, h)
noncomputable def cSeq (a b : Code) : KCode := fun _ _ ih fr h =>
  match ih a fr h with
      | some (.normal, fr, h) => ih b fr h
      | r => r
noncomputable def cCond (x : Operand) (a b : Code) : KCode := fun _ _ ih fr h =>
  match look fr x with
      | some (.bool true) => ih a fr h
      | some (.bool false) => ih b fr h
      | _ => none
noncomputable def cBlock (id : Nat) (c : Code) : KCode := fun _ _ ih fr h =>
  match ih c fr h with
      | some (.exit i, fr, h) => bif Nat.beq i id then some (.normal, fr, h) else some (.exit i, fr, h)
      | r => r
noncomputable def cLoop (c : Code) : KCode := fun _ _ ih fr h =>
  match ih c fr h with
      | some (.normal, fr, h) => ih (.loop c) fr h
      | r => r
noncomputable def cExit (id : Nat) : KCode := fun _ _ _ fr h => some (.exit id, fr, h)
noncomputable def cRet : KCode := fun _ _ _ fr h => some (.ret, fr, h)
/-- a range over a function: its record is laid, the function is called with the yield -/
noncomputable def cRange (f : Operand) (ps : Array Tmp) (assign body : Code) : KCode := fun _ call _ fr h =>
  match look fr f with
  | some (.func (.func g) first captured) =>
    match call (.func g) (first.toList ++ ([.func (.yield h.next) #[] #[]] ++ captured.toList)) (h.new (.loop fr ps.toList assign body none)) with
    | none => none
    | some (_, h2) => match h2.get h.next with
      | some (.loop _ _ _ _ none) => some (.normal, fr, h2.put h.next none)
      | some (.loop _ _ _ _ (some .ret)) => some (.ret, fr, h2.put h.next none)
      | some (.loop _ _ _ _ (some (.exit id))) => some (.exit id, fr, h2.put h.next none)
      | _ => none
  | _ => none
/-- the order: skip region seq cond block loop rangeFunc exit scope label goto ret refuse -/
noncomputable def kCode (c : Code) : KCode :=
  Code.rec (motive := fun _ => KCode) cSkip cRegion (fun a b _ _ => cSeq a b) (fun x a b _ _ => cCond x a b) (fun id c _ => cBlock id c) (fun c _ => cLoop c)
    (fun f ps a b _ _ => cRange f ps a b) cExit (fun _ _ => cNone) (fun _ => cSkip) (fun _ => cNone) cRet (fun _ => cNone) c
noncomputable def evCode (call : CallF) (n : Nat) : CodeF :=
  Nat.rec (motive := fun _ => CodeF) (fun _ _ _ => none) (fun _ ih c fr h => kCode c P call ih fr h) n

noncomputable def results (fr : Fr) (h : Hp) : List ResultVar → Option (List Value)
  | [] => some []
  | .tmp t :: rs => match fr.get t with
    | none => none
    | some v => match results fr h rs with | none => none | some vs => some (v :: vs)
  | .cell a t :: rs => match fr.get a with
    | some (.pointer (some a)) => match loadA P h t a with
      | none => none
      | some v => match results fr h rs with | none => none | some vs => some (v :: vs)
    | _ => none

noncomputable def enterFr : List Value → Nat → Fr → Fr
  | [], _, fr => fr
  | v :: vs, i, fr => enterFr vs (Nat.add i 1) (fr.set i (some v))

/-- every operation's place is in the frame -/
noncomputable def dstOk (n : Nat) (ops : List Oper) : Bool := ops.all fun o => match o.dst with | none => true | some d => Nat.blt d n
noncomputable def codeOk (n : Nat) (c : Code) : Bool :=
  Code.rec (motive := fun _ => Bool) true (fun _ ops _ => dstOk n ops.toList) (fun _ _ a b => a && b) (fun _ _ _ a b => a && b) (fun _ _ a => a) (fun _ a => a)
    (fun _ ps _ _ a b => a && b && ps.toList.all fun t => Nat.blt t n) (fun _ => true) (fun _ _ => true) (fun _ => true) (fun _ => true) true (fun _ => true) c
abbrev Ext := FuncId → Option (List Value → Hp → Option (Value × Hp))
noncomputable def evBody (P : Program) (ih : CallF) (n : Nat) (fn : Func) (c : Code) (args : List Value) (h : Hp) : Option (Value × Hp) :=
  match evCode P ih n c (enterFr args 0 .leaf) h with
  | none => none
  | some (.exit _, _, _) => none
  | some (_, fr, h) => match results P fr h fn.results.toList with
    | none => none
    | some [v] => some (v, h)
    | some vs => some (.tuple ⟨vs⟩, h)
noncomputable def evFn (P : Program) (ih : CallF) (n : Nat) (f : FuncId) (args : List Value) (h : Hp) : Option (Value × Hp) :=
  match P.funcs[f]? with
  | none => none
  | some fn => match fn.body with
    | none => none
    | some c => bif codeOk fn.ntmps c && not (fn.name == "runtime.NumGoroutine") then evBody P ih n fn c args h else none
noncomputable def setPs (fr : Fr) : List Tmp → List Value → Fr
  | p :: ps, v :: vs => setPs (fr.set p (some v)) ps vs
  | _, _ => fr
/-- one round of a range over a function -/
noncomputable def evRound (P : Program) (ih : CallF) (n : Nat) (l : Nat) (args : List Value) (h : Hp) : Option (Value × Hp) :=
  match h.get l with
  | some (.loop fr ps assign body none) =>
    bif not (Nat.blt l h.low) && Nat.beq args.length ps.length then
      match evCode P ih n assign (setPs fr ps args) (h.put l none) with
      | some (.normal, fr1, h1) => match evCode P ih n body fr1 h1 with
        | some (.normal, _, h2) => some (.bool true, h2.put l (some (.loop fr ps assign body none)))
        | some (.ret, _, h2) => some (.bool false, h2.put l (some (.loop fr ps assign body (some .ret))))
        | some (.exit id, _, h2) => some (.bool false, h2.put l (some (.loop fr ps assign body (some (.exit id)))))
        | none => none
      | _ => none
    else none
  | _ => none
noncomputable def evCall (ext : Ext) (n : Nat) : CallF :=
  Nat.rec (motive := fun _ => CallF) (fun _ _ _ => none)
  (fun n ih fn args h =>
    match fn with
    | .func f => match ext f with
      | some g => g args h
      | none => evFn P ih n f args h
    | .yield l => evRound P ih n l args h
    | _ => none) n
end
end Go.Ev
namespace Go.Ev

namespace T
variable {α : Type}
@[simp] theorem getP_leaf (p : Pos) : (T.leaf : T α).getP p = none := rfl
@[simp] theorem getP_e (l r : T α) (v : Option α) : (T.node l v r).getP .e = v := rfl
@[simp] theorem getP_a (l r : T α) (v : Option α) (p : Pos) : (T.node l v r).getP (.a p) = l.getP p := rfl
@[simp] theorem getP_b (l r : T α) (v : Option α) (p : Pos) : (T.node l v r).getP (.b p) = r.getP p := rfl
@[simp] theorem setP_e_leaf (x : Option α) : (T.leaf : T α).setP .e x = .node .leaf x .leaf := rfl
@[simp] theorem setP_e (x : Option α) (l r : T α) (v : Option α) : (T.node l v r).setP .e x = .node l x r := rfl
@[simp] theorem setP_a_leaf (x : Option α) (p : Pos) : (T.leaf : T α).setP (.a p) x = .node (T.leaf.setP p x) none .leaf := rfl
@[simp] theorem setP_a (x : Option α) (p : Pos) (l r : T α) (v : Option α) : (T.node l v r).setP (.a p) x = .node (l.setP p x) v r := rfl
@[simp] theorem setP_b_leaf (x : Option α) (p : Pos) : (T.leaf : T α).setP (.b p) x = .node .leaf none (T.leaf.setP p x) := rfl
@[simp] theorem setP_b (x : Option α) (p : Pos) (l r : T α) (v : Option α) : (T.node l v r).setP (.b p) x = .node l v (r.setP p x) := rfl

theorem get_setP_same (x : Option α) : ∀ (p : Pos) (t : T α), (t.setP p x).getP p = x
  | .e, .leaf => rfl
  | .e, .node .. => rfl
  | .a p, .leaf => by simp [get_setP_same x p]
  | .a p, .node .. => by simp [get_setP_same x p]
  | .b p, .leaf => by simp [get_setP_same x p]
  | .b p, .node .. => by simp [get_setP_same x p]
theorem get_setP_ne (x : Option α) : ∀ (p q : Pos) (t : T α), p ≠ q → (t.setP p x).getP q = t.getP q
  | .e, .e, _, h => absurd rfl h
  | .e, .a q, .leaf, _ | .e, .b q, .leaf, _ => by simp
  | .e, .a q, .node .., _ | .e, .b q, .node .., _ => by simp
  | .a p, .e, .leaf, _ | .a p, .e, .node .., _ | .a p, .b q, .leaf, _ | .a p, .b q, .node .., _ => by simp
  | .b p, .e, .leaf, _ | .b p, .e, .node .., _ | .b p, .a q, .leaf, _ | .b p, .a q, .node .., _ => by simp
  | .a p, .a q, .leaf, h => by simp [get_setP_ne x p q .leaf (fun e => h (by rw [e]))]
  | .a p, .a q, .node l _ _, h => by simp [get_setP_ne x p q l (fun e => h (by rw [e]))]
  | .b p, .b q, .leaf, h => by simp [get_setP_ne x p q .leaf (fun e => h (by rw [e]))]
  | .b p, .b q, .node _ _ r, h => by simp [get_setP_ne x p q r (fun e => h (by rw [e]))]
end T

def Pos.num : Pos → Nat
  | .e => 0
  | .a p => 2 * p.num + 1
  | .b p => 2 * p.num + 2

theorem pthF_num : ∀ (k n : Nat), n ≤ k → (pthF k n).num = n := by
  intro k
  induction k with
  | zero => intro n h; have : n = 0 := by omega
            subst this; rfl
  | succ k ih =>
    intro n h
    have hs : pthF (k + 1) n = Bool.rec (Bool.rec (.b (pthF k (Nat.pred (Nat.div n 2)))) (.a (pthF k (Nat.div n 2))) (Nat.beq (Nat.mod n 2) 1)) .e (Nat.beq n 0) := rfl
    have hd : Nat.div n 2 = n / 2 := rfl
    have hm : Nat.mod n 2 = n % 2 := rfl
    rw [hs]
    cases h0 : Nat.beq n 0 with
    | true => have := Nat.eq_of_beq_eq_true h0; subst this; rfl
    | false =>
      have h0' : n ≠ 0 := by rintro rfl; simp at h0
      cases h1 : Nat.beq (Nat.mod n 2) 1 with
      | true =>
        have h1' := Nat.eq_of_beq_eq_true h1
        simp only [Pos.num]
        rw [ih _ (by rw [hd]; omega), hd]
        omega
      | false =>
        have h1' : Nat.mod n 2 ≠ 1 := by intro e; rw [e] at h1; simp at h1
        simp only [Pos.num]
        rw [ih _ (by rw [hd]; simp only [Nat.pred_eq_sub_one]; omega), hd]
        simp only [Nat.pred_eq_sub_one]
        omega
theorem pth_inj {n m : Nat} (h : pth n = pth m) : n = m := by
  have h1 := pthF_num n n (Nat.le_refl _)
  have h2 := pthF_num m m (Nat.le_refl _)
  unfold pth at h
  rw [h, h2] at h1
  exact h1.symm
theorem T.get_set {α : Type} (t : T α) (n m : Nat) (x : Option α) : (t.set n x).get m = if n = m then x else t.get m := by
  unfold T.get T.set
  split
  · rename_i h; subst h; exact T.get_setP_same x _ _
  · rename_i h; exact T.get_setP_ne x _ _ _ (fun e => h (pth_inj e))
theorem T.get_leaf {α : Type} (n : Nat) : (T.leaf : T α).get n = none := rfl

theorem Hp.get_put (h : Hp) (b c : Nat) (x : Option Blk) : (h.put b x).get c = if b = c then x else h.get c := T.get_set _ _ _ _
theorem Hp.get_new (h : Hp) (c : Nat) (x : Blk) : (h.new x).get c = if h.next = c then some x else h.get c := T.get_set _ _ _ _
@[simp] theorem Hp.next_put (h : Hp) (b : Nat) (x : Option Blk) : (h.put b x).next = h.next := rfl
@[simp] theorem Hp.low_put (h : Hp) (b : Nat) (x : Option Blk) : (h.put b x).low = h.low := rfl
@[simp] theorem Hp.next_new (h : Hp) (x : Blk) : (h.new x).next = h.next + 1 := rfl
@[simp] theorem Hp.low_new (h : Hp) (x : Blk) : (h.new x).low = h.low := rfl

/-- a frame's places -/
def RFr (n : Nat) (e : Env) (fr : Fr) (tmps : Array Value) : Prop := ∀ t v, fr.get t = some v → ∃ v', tmps[t]? = some v' ∧ RV n e v v'
theorem RFr.mono {n m : Nat} {e e' : Env} {fr : Fr} {tmps : Array Value} (h : RFr n e fr tmps) (hn : n ≤ m) (ha : Agree n e e') : RFr m e' fr tmps :=
  fun t v hv => let ⟨v', h1, h2⟩ := h t v hv; ⟨v', h1, h2.mono hn ha⟩
/-- a map's entries -/
structure REs (n : Nat) (e : Env) (es : List (Value × Value × Nat)) (es' : List MapEntry) : Prop where
  eq : es' = es.map fun x => ⟨conc e x.1, conc e x.2.1, x.2.2⟩
  under : ∀ x ∈ es, under n x.1 ∧ under n x.2.1
theorem REs.mono {n m : Nat} {e e' : Env} {es : List (Value × Value × Nat)} {es' : List MapEntry} (h : REs n e es es') (hn : n ≤ m) (ha : Agree n e e') : REs m e' es es' :=
  ⟨h.eq.trans (List.map_congr_left fun x hx => by rw [conc_agree ha _ (h.under x hx).1, conc_agree ha _ (h.under x hx).2]), fun x hx => ⟨under_mono hn _ (h.under x hx).1, under_mono hn _ (h.under x hx).2⟩⟩

/-- the record of a range over a function, where no round is under way -/
def recOf (fn : FuncId) (tmps : Array Value) (df : Nat) (ps : List Tmp) (assign body : Code) (pend : Option Code) : Loop :=
  { state := if pend.isNone then .ready else .done, pending := pend, fn := fn, tmps := tmps, params := ps.toArray, assign := assign, body := body, defers := df }

/-- the first blocks of the evaluator are the machine's own: the package-level variables -/
structure Glob (n : Nat) (e : Env) : Prop where
  le : 64 ≤ n
  fix : ∀ b, b < 64 → e.phi b = b
theorem Glob.mono {n m : Nat} {e e' : Env} (h : Glob n e) (hn : n ≤ m) (ha : Agree n e e') : Glob m e' :=
  ⟨Nat.le_trans h.le hn, fun b hb => ((ha b (Nat.lt_of_lt_of_le hb h.le)).1).trans (h.fix b hb)⟩

/-- how a block lies in the world -/
def Lies (P : Program) (n : Nat) (e : Env) (b : Nat) (x : Blk) (w : World) : Prop :=
  match x with
  | .cells c elem opn => ∃ cs : Array Value, w.heap[e.phi b]? = some (.cells cs elem (0, 0)) ∧
      (if opn then ∃ l l' : List Value, cs.toList = l ++ l' ∧ RC n e c l ∧ ∃ s, szOf P elem = some s ∧ e.kap b * s = cs.size
       else RC n e c cs.toList)
  | .map es clock => ∃ es' : Array MapEntry, w.heap[e.phi b]? = some (.map es' clock) ∧ REs n e es es'.toList
  | .iter m since seen last => (∀ r, m = some r → r < n) ∧ w.heap[e.phi b]? = some (.mapIter (m.map e.phi) since seen.toArray last)
  | .loop fr ps assign body pend => ∃ fn tmps df nt, w.heap[e.phi b]? = some (.loop (recOf fn tmps df ps assign body pend)) ∧ RFr n e fr tmps ∧ nt ≤ tmps.size ∧ codeOk nt assign = true ∧ codeOk nt body = true ∧ ∀ p ∈ ps, p < nt

structure Rel (P : Program) (h : Hp) (e : Env) (w : World) : Prop where
  lies : ∀ b x, h.get b = some x → b < h.next ∧ Lies P h.next e b x w
  inj : ∀ b c x y, h.get b = some x → h.get c = some y → e.phi b = e.phi c → b = c
  low : h.low ≤ h.next
  glob : Glob h.next e

/-- a stretch of the run -/
structure Stp (h : Hp) (e : Env) (w : World) (h' : Hp) (e' : Env) (w' : World) : Prop where
  next : h.next ≤ h'.next
  agree : Agree h.next e e'
  img : ∀ b x, h'.get b = some x → (∃ c y, h.get c = some y ∧ e.phi c = e'.phi b) ∨ w.heap.size ≤ e'.phi b
  keep : ∀ r, r < w.heap.size → (∀ b x, h.get b = some x → e.phi b ≠ r) → w'.heap[r]? = w.heap[r]?
  size : w.heap.size ≤ w'.heap.size
  os : w'.os = w.os
  tape : w'.tape = w.tape
  output : w'.output = w.output
  low : h'.low = h.low
  prot : ∀ b, b < h.low → h'.get b = h.get b

theorem Stp.refl (h : Hp) (e : Env) (w : World) : Stp h e w h e w :=
  ⟨Nat.le_refl _, Agree.refl _ _, fun b x hb => .inl ⟨b, x, hb, rfl⟩, fun _ _ _ => rfl, Nat.le_refl _, rfl, rfl, rfl, rfl, fun _ _ => rfl⟩

theorem Stp.trans {h₀ h₁ h₂ : Hp} {e₀ e₁ e₂ : Env} {w₀ w₁ w₂ : World} (s : Stp h₀ e₀ w₀ h₁ e₁ w₁) (t : Stp h₁ e₁ w₁ h₂ e₂ w₂) : Stp h₀ e₀ w₀ h₂ e₂ w₂ where
  next := Nat.le_trans s.next t.next
  agree := s.agree.trans s.next t.agree
  img b x hb := by
    rcases t.img b x hb with ⟨c, y, hc, he⟩ | h
    · rcases s.img c y hc with ⟨d, z, hd, he'⟩ | h'
      · exact .inl ⟨d, z, hd, he'.trans he⟩
      · exact .inr (he ▸ h')
    · exact .inr (Nat.le_trans s.size h)
  keep r hr hn := by
    rw [t.keep r (Nat.lt_of_lt_of_le hr s.size) ?_, s.keep r hr hn]
    intro b x hb he
    rcases s.img b x hb with ⟨c, y, hc, he'⟩ | h
    · exact hn c y hc (he'.trans he)
    · omega
  size := Nat.le_trans s.size t.size
  os := t.os.trans s.os
  tape := t.tape.trans s.tape
  output := t.output.trans s.output
  low := t.low.trans s.low
  prot b hb := (t.prot b (s.low ▸ hb)).trans (s.prot b hb)

/-- a draw turns nothing -/
theorem Rel.draw {P : Program} {h : Hp} {e : Env} {w : World} (r : Rel P h e w) (d : Nat) : Rel P h e { w with drawn := d } := ⟨r.lies, r.inj, r.low, r.glob⟩
theorem Stp.draw (h : Hp) (e : Env) (w : World) (d : Nat) : Stp h e w h e { w with drawn := d } :=
  ⟨Nat.le_refl _, Agree.refl _ _, fun b x hb => .inl ⟨b, x, hb, rfl⟩, fun _ _ _ => rfl, Nat.le_refl _, rfl, rfl, rfl, rfl, fun _ _ => rfl⟩

end Go.Ev
namespace Go.Ev
variable {P : Program}

theorem Lies.mono {n m : Nat} {e e' : Env} {b : Nat} {x : Blk} {w w' : World} (hl : Lies P n e b x w) (hb : b < n) (hn : n ≤ m) (ha : Agree n e e')
    (hw : w'.heap[e.phi b]? = w.heap[e.phi b]?) : Lies P m e' b x w' := by
  cases x with
  | cells c elem opn =>
    obtain ⟨cs, h1, h2⟩ := hl
    refine ⟨cs, by rw [(ha b hb).1, hw, h1], ?_⟩
    split at h2
    · obtain ⟨l, l', hcs, hc, s, hs, hk⟩ := h2
      rw [if_pos ‹_›]
      exact ⟨l, l', hcs, hc.mono hn ha, s, hs, by rw [(ha b hb).2.1]; exact hk⟩
    · rw [if_neg ‹_›]
      exact h2.mono hn ha
  | map es clock =>
    obtain ⟨es', h1, h2⟩ := hl
    exact ⟨es', by rw [(ha b hb).1, hw, h1], h2.mono hn ha⟩
  | iter m since seen last =>
    obtain ⟨h1, h2⟩ := hl
    refine ⟨fun r hr => Nat.lt_of_lt_of_le (h1 r hr) hn, ?_⟩
    rw [(ha b hb).1, hw, h2, phi_agree ha m h1]
  | loop fr ps assign body pend =>
    obtain ⟨fn, tmps, df, nt, h1, h2, h3⟩ := hl
    exact ⟨fn, tmps, df, nt, by rw [(ha b hb).1, hw, h1], h2.mono hn ha, h3⟩

/-- what the evaluator's blocks are in the machine -/
def absObj : Obj → Bool
  | .cells .. | .map .. | .mapIter .. | .loop .. => true
  | _ => false
theorem Lies.obj {n : Nat} {e : Env} {b : Nat} {x : Blk} {w : World} (hl : Lies P n e b x w) : ∃ o, w.heap[e.phi b]? = some o ∧ absObj o = true := by
  cases x with
  | cells c elem opn => obtain ⟨cs, h1, _⟩ := hl; exact ⟨_, h1, rfl⟩
  | map es clock => obtain ⟨es', h1, _⟩ := hl; exact ⟨_, h1, rfl⟩
  | iter m since seen last => exact ⟨_, hl.2, rfl⟩
  | loop fr ps assign body pend => obtain ⟨fn, tmps, df, nt, h1, _⟩ := hl; exact ⟨_, h1, rfl⟩

def Env.ext (e : Env) (b r k : Nat) : Env := ⟨fun i => if i = b then r else e.phi i, fun i => if i = b then k else e.kap i, e.gh, e.iv⟩
theorem Env.ext_agree (e : Env) (b r k : Nat) : Agree b e (e.ext b r k) := fun i hi => by
  have : i ≠ b := by omega
  simp [Env.ext, this]
@[simp] theorem Env.ext_phi (e : Env) (b r k : Nat) : (e.ext b r k).phi b = r := by simp [Env.ext]
@[simp] theorem Env.ext_kap (e : Env) (b r k : Nat) : (e.ext b r k).kap b = k := by simp [Env.ext]

def World.alloc' (w : World) (o : Obj) : World := { w with heap := w.heap.push o }

theorem Rel.lt {h : Hp} {e : Env} {w : World} (r : Rel P h e w) {b : Nat} {x : Blk} (hb : h.get b = some x) : e.phi b < w.heap.size := by
  obtain ⟨_, hl⟩ := r.lies b x hb
  obtain ⟨o, h1, _⟩ := hl.obj
  exact (Array.getElem?_eq_some_iff.1 h1).1

/-- a new block -/
theorem Rel.new {h : Hp} {e : Env} {w w' : World} (r : Rel P h e w) (x : Blk) (o : Obj) (k : Nat) (hw : w' = { World.alloc' w o with drawn := w'.drawn })
    (hx : Lies P (h.next + 1) (e.ext h.next w.heap.size k) h.next x w') :
    Rel P (h.new x) (e.ext h.next w.heap.size k) w' ∧ Stp h e w (h.new x) (e.ext h.next w.heap.size k) w' := by
  have hag := e.ext_agree h.next w.heap.size k
  have hheap : w'.heap = w.heap.push o := by rw [hw]; rfl
  have hold : ∀ b y, h.get b = some y → h.next ≠ b := fun b y hb hne => by have := (r.lies b y hb).1; omega
  refine ⟨⟨fun b y hb => ?_, fun b c y z hb hc he => ?_, by simp; have := r.low; omega, r.glob.mono (by simp) hag⟩, ⟨by simp, hag, fun b y hb => ?_, fun i hi _ => ?_, ?_, ?_, ?_, ?_, rfl, fun b hb => ?_⟩⟩
  · rw [Hp.get_new] at hb
    split at hb
    · rename_i hbn
      subst hbn
      cases hb
      exact ⟨by simp, hx⟩
    · obtain ⟨h1, h2⟩ := r.lies b y hb
      refine ⟨by simp; omega, h2.mono h1 (by simp) hag ?_⟩
      rw [hheap, Array.getElem?_push, if_neg]
      exact Nat.ne_of_lt (r.lt hb)
  · rw [Hp.get_new] at hb hc
    split at hb <;> split at hc
    · omega
    · rename_i h1 h2
      subst h1
      rw [Env.ext_phi, (hag c (r.lies c z hc).1).1] at he
      have := r.lt hc; omega
    · rename_i h1 h2
      subst h2
      rw [Env.ext_phi, (hag b (r.lies b y hb).1).1] at he
      have := r.lt hb; omega
    · rw [(hag c (r.lies c z hc).1).1, (hag b (r.lies b y hb).1).1] at he
      exact r.inj b c y z hb hc he
  · rw [Hp.get_new] at hb
    split at hb
    · rename_i hbn
      subst hbn
      exact .inr (by simp)
    · exact .inl ⟨b, y, hb, ((hag b (r.lies b y hb).1).1).symm⟩
  · rw [hheap, Array.getElem?_push, if_neg (by omega)]
  · rw [hheap]; simp
  · rw [hw]; rfl
  · rw [hw]; rfl
  · rw [hw]; rfl
  · rw [Hp.get_new, if_neg]
    have := r.low
    omega

theorem splice_go (vs : List Value) : ∀ l : List Value, vs.length ≤ l.length → splice.go l vs = vs ++ l.drop vs.length := by
  induction vs with
  | nil => intro l _; simp [splice.go]
  | cons v vs ih =>
    intro l hl
    cases l with
    | nil => simp at hl
    | cons x l => simp [splice.go, ih l (by simpa using hl)]
theorem splice_eq (vs : List Value) : ∀ (off : Nat) (l : List Value), off + vs.length ≤ l.length → splice l off vs = l.take off ++ (vs ++ l.drop (off + vs.length)) := by
  intro off
  induction off with
  | zero => intro l hl; simp [splice, splice_go vs l (by simpa using hl)]
  | succ n ih =>
    intro l hl
    cases l with
    | nil => simp at hl
    | cons x l =>
      simp only [splice]
      rw [ih l (by simp at hl; omega)]
      simp [Nat.add_right_comm n 1]

theorem Lies.cells_inv {n : Nat} {e : Env} {b : Nat} {c : List Value} {elem : TypeId} {opn : Bool} {w : World} (hl : Lies P n e b (.cells c elem opn) w) :
    ∃ (cs : Array Value) (l l' : List Value), w.heap[e.phi b]? = some (.cells cs elem (0, 0)) ∧ cs.toList = l ++ l' ∧ RC n e c l ∧
      (if opn then ∃ s, szOf P elem = some s ∧ e.kap b * s = cs.size else l' = []) := by
  obtain ⟨cs, h1, h2⟩ := hl
  split at h2
  · obtain ⟨l, l', hcs, hc, s⟩ := h2
    exact ⟨cs, l, l', h1, hcs, hc, by rw [if_pos ‹_›]; exact s⟩
  · exact ⟨cs, cs.toList, [], h1, by simp, h2, by rw [if_neg ‹_›]⟩

/-- what is read -/
theorem rd_ok {h : Hp} {e : Env} {w : World} (r : Rel P h e w) {a : Addr} {n : Nat} {l : List Value} (hr : rd h a n = some l) :
    l.length = n ∧ ∃ l', RC h.next e l l' ∧ ∀ i, i < n → w.cell? ((cA e a).add i) = l'[i]? := by
  unfold rd at hr
  split at hr
  · rename_i c el op hsp hb
    cases hle : Nat.ble (Nat.add a.off n) c.length with
    | false => rw [hle, cond_false] at hr; cases hr
    | true =>
      rw [hle, cond_true, Option.some.injEq] at hr
      subst hr
      have hle' : a.off + n ≤ c.length := Nat.le_of_ble_eq_true hle
      obtain ⟨_, hl⟩ := r.lies _ _ hb
      obtain ⟨cs, l, l', h1, h2, h3, _⟩ := hl.cells_inv
      have hlen : l.length = c.length := h3.rl.length
      refine ⟨by simp; omega, _, (h3.drop a.off).take n, fun i hi => ?_⟩
      have hsp' : a.spot = none := hsp
      have : ((cA e a).add i) = ⟨e.phi a.block, a.off + i, none⟩ := by
        unfold Addr.add cA
        split
        · rename_i h0; simp [h0, hsp']
        · rfl
      rw [this]
      simp only [World.cell?, h1]
      rw [← Array.getElem?_toList, h2]
      simp [List.getElem?_take, List.getElem?_drop, hi]
      rw [List.getElem?_append_left (by omega)]
  · cases hr

theorem rd1_ok {h : Hp} {e : Env} {w : World} (r : Rel P h e w) {a : Addr} {v : Value} (hr : rd1 h a = some v) :
    ∃ v', w.cell? (cA e a) = some v' ∧ RV h.next e v v' ∧ one v = true := by
  unfold rd1 at hr
  split at hr
  · rename_i c el op hsp hb
    obtain ⟨_, hl⟩ := r.lies _ _ hb
    obtain ⟨cs, l, l', h1, h2, h3, _⟩ := hl.cells_inv
    obtain ⟨v', hv', hrv⟩ := h3.rl.get hr
    refine ⟨v', ?_, hrv, h3.one v (List.mem_of_getElem? hr)⟩
    have hsp' : a.spot = none := hsp
    simp only [World.cell?, cA, h1, hsp']
    rw [← Array.getElem?_toList, h2]
    have : a.off < l.length := (List.getElem?_eq_some_iff.1 hv').1
    simp
    rw [List.getElem?_append_left this]
    exact hv'
  · cases hr

/-- the world w' is w but for the cells of block r -/
structure Wrote (r : Nat) (o : Obj) (w w' : World) : Prop where
  at_ : w'.heap[r]? = some o
  other : ∀ k, k ≠ r → w'.heap[k]? = w.heap[k]?
  size : w'.heap.size = w.heap.size
  drawn : w'.drawn = w.drawn
  os : w'.os = w.os
  tape : w'.tape = w.tape
  output : w'.output = w.output

theorem storeCells_run {a : Addr} {el : TypeId} (hs : a.spot = none) : ∀ (vs : List Value) (i : Nat) (w : World) (cs : Array Value), w.heap[a.block]? = some (.cells cs el (0, 0)) →
    a.off + i + vs.length ≤ cs.size → (∀ v ∈ vs, one v = true) →
    ∃ (w' : World) (cs' : Array Value), (storeCells a vs i).run P w = .ok () w' ∧ Wrote a.block (.cells cs' el (0, 0)) w w' ∧
      cs'.toList = cs.toList.take (a.off + i) ++ (vs ++ cs.toList.drop (a.off + i + vs.length)) := by
  intro vs
  induction vs with
  | nil => intro i w cs hw _ _; exact ⟨w, cs, rfl, ⟨hw, fun _ _ => rfl, rfl, rfl, rfl, rfl, rfl⟩, by simp⟩
  | cons v vs ih =>
    intro i w cs hw hle hone
    have hadd : a.add i = ⟨a.block, a.off + i, none⟩ := by
      unfold Addr.add
      split
      · rename_i h0; subst h0; cases a; simp at hs; simp [hs]
      · rfl
    simp only [List.length_cons] at hle
    have hv : one v = true := hone v (by simp)
    have hcell : ∃ x, w.cell? (a.add i) = some x := by
      rw [hadd]
      simp only [World.cell?, hw]
      exact ⟨cs[a.off + i]'(by omega), by simp⟩
    obtain ⟨x, hx⟩ := hcell
    have hfr : w.frozen? (a.add i) = false := by
      rw [hadd]
      simp [World.frozen?, hw]
    have hrun : (storeCells a (v :: vs) i).run P w = (storeCells a vs (i + 1)).run P (w.setCell (a.add i) v) := by
      have h0 : storeCells a (v :: vs) i = .store .plain (a.add i) v (storeCells a vs (i + 1)) := rfl
      rw [h0]
      cases v <;> simp [one] at hv <;> simp [Sem.run, hx, hfr]
    have hset : (w.setCell (a.add i) v).heap[a.block]? = some (.cells (cs.setIfInBounds (a.off + i) v) el (0, 0)) := by
      rw [hadd]
      simp [World.setCell, Array.getElem?_modify, hw]
    obtain ⟨w', cs', h1, h2, h3⟩ := ih (i + 1) (w.setCell (a.add i) v) (cs.setIfInBounds (a.off + i) v) hset (by simp; omega) (fun u hu => hone u (by simp [hu]))
    refine ⟨w', cs', hrun.trans h1, ⟨h2.at_, fun k hk => ?_, ?_, h2.drawn, h2.os, h2.tape, h2.output⟩, ?_⟩
    · rw [h2.other k hk, hadd]
      simp [World.setCell, Array.getElem?_modify, Ne.symm hk]
    · rw [h2.size, hadd]
      simp [World.setCell]
    · rw [h3]
      have hlt : a.off + i < cs.toList.length := by simp; omega
      have e1 : a.off + (i + 1) = a.off + i + 1 := by omega
      rw [e1, Array.toList_setIfInBounds, List.take_succ_eq_append_getElem (by simpa using hlt), List.take_set_of_le (by omega), List.getElem_set_self, List.drop_set_of_lt (by omega)]
      simp [Nat.add_assoc, Nat.add_comm 1]

/-- what is written -/
theorem wr_ok {h h' : Hp} {e : Env} {w : World} (r : Rel P h e w) {a : Addr} {vs us : List Value} (hr : wr h a vs = some h') (hv : RC h.next e vs us) :
    ∃ w', (storeCells (cA e a) us).run P w = .ok () w' ∧ Rel P h' e w' ∧ Stp h e w h' e w' ∧ h'.next = h.next := by
  unfold wr at hr
  split at hr
  · rename_i c el op hsp hb
    have hsp' : a.spot = none := hsp
    cases hle : (not (Nat.blt a.block h.low) && Nat.ble (Nat.add a.off vs.length) c.length) with
    | false => rw [hle, cond_false] at hr; cases hr
    | true =>
      rw [hle, cond_true, Option.some.injEq] at hr
      subst hr
      rw [Bool.and_eq_true] at hle
      have hlow : ¬ a.block < h.low := by
        intro hlt
        have : Nat.blt a.block h.low = true := by rw [Nat.blt_eq]; exact hlt
        rw [this] at hle
        simp at hle
      have hlen : a.off + vs.length ≤ c.length := Nat.le_of_ble_eq_true hle.2
      obtain ⟨hnext, hl⟩ := r.lies _ _ hb
      obtain ⟨cs, l, l', h1, h2, h3, h4⟩ := hl.cells_inv
      have hll : l.length = c.length := h3.rl.length
      have hus : us.length = vs.length := hv.rl.length
      have hsz : cs.size = l.length + l'.length := by rw [← Array.length_toList, h2]; simp
      obtain ⟨w', cs', hrun, hw, hcs'⟩ := storeCells_run (P := P) (a := cA e a) (el := el) rfl us 0 w cs h1 (by rw [cA_none hsp']; simp; omega)
        (fun v hv' => by rw [hv.rl.2] at hv'; obtain ⟨u, hu, rfl⟩ := List.mem_map.1 hv'; rw [one_conc]; exact hv.one u hu)
      have hl' : RC h.next e (splice c a.off vs) (splice l a.off us) := by
        rw [splice_eq _ _ _ hlen, splice_eq _ _ _ (by omega), hus]
        exact (h3.take _).append (hv.append (h3.drop _))
      have hcsl : cs'.toList = splice l a.off us ++ l' := by
        rw [hcs', h2, splice_eq _ _ _ (by omega), cA_none hsp']
        simp only [Nat.add_zero]
        rw [List.take_append_of_le_length (by omega), List.drop_append_of_le_length (by omega)]
        simp
      have hsize : cs'.size = cs.size := by
        rw [← Array.length_toList, hcsl, splice_eq _ _ _ (by omega)]
        simp; omega
      refine ⟨w', hrun, ⟨fun b x hbx => ?_, fun b b' x y hbx hby he => ?_, r.low, r.glob⟩, ⟨Nat.le_refl _, Agree.refl _ _, fun b x hbx => ?_, fun k hk hn => ?_, Nat.le_of_eq hw.size.symm, hw.os, hw.tape, hw.output, rfl, fun b hbl => ?_⟩, rfl⟩
      · rw [Hp.get_put] at hbx
        split at hbx
        · rename_i hab
          subst hab
          cases hbx
          refine ⟨hnext, cs', hw.at_, ?_⟩
          split at h4
          · rw [if_pos ‹_›]
            obtain ⟨s, hs, hk⟩ := h4
            exact ⟨_, l', hcsl, hl', s, hs, by rw [hsize]; exact hk⟩
          · rw [if_neg ‹_›]
            subst h4
            rw [hcsl, List.append_nil]
            exact hl'
        · rename_i hab
          obtain ⟨hn, hx⟩ := r.lies b x hbx
          refine ⟨hn, hx.mono hn (Nat.le_refl _) (Agree.refl _ _) (hw.other _ fun he => hab ?_)⟩
          exact (r.inj b a.block x _ hbx hb he).symm
      · rw [Hp.get_put] at hbx hby
        split at hbx <;> split at hby
        · omega
        · rename_i ha1 _; subst ha1; exact r.inj _ _ _ _ hb hby he
        · rename_i _ ha1; subst ha1; exact r.inj _ _ _ _ hbx hb he
        · exact r.inj _ _ _ _ hbx hby he
      · rw [Hp.get_put] at hbx
        split at hbx
        · rename_i ha1; subst ha1; exact .inl ⟨_, _, hb, rfl⟩
        · exact .inl ⟨b, x, hbx, rfl⟩
      · exact hw.other k (fun he => hn _ _ hb he.symm)
      · rw [Hp.get_put, if_neg]; omega
  · cases hr

end Go.Ev
namespace Go.Ev
variable {P : Program}

theorem plainCell_ok {v : Value} (h : plainCell v = true) (n : Nat) (e : Env) : conc e v = v ∧ under n v ∧ one v = true := by
  cases v with
  | pointer a => cases a <;> simp [plainCell] at h; simp [conc, under, one]
  | map a => cases a <;> simp [plainCell] at h; simp [conc, under, one]
  | slice a l c => cases a <;> simp [plainCell] at h; simp [conc, under, one, cCap]
  | _ => first | (simp [plainCell] at h; done) | simp [conc, under, one]

theorem plain_cell {v : Value} (h : plain v = true) (ha : ∀ cs, v ≠ .agg cs) : plainCell v = true := by
  cases v <;> first | exact h | exact absurd rfl (ha _)

theorem plain_ok {v : Value} (h : plain v = true) (n : Nat) (e : Env) : RV n e v v := by
  cases v with
  | agg cs =>
    have h1 : ∀ v ∈ cs.toList, plainCell v = true := by
      intro v hv
      simp only [plain] at h
      have := (Array.all_eq_true_iff_forall_mem.1 h) v (Array.mem_toList_iff.1 hv)
      exact this
    refine RV.agg ⟨⟨fun v hv => (plainCell_ok (h1 v hv) n e).2.1, ?_⟩, fun v hv => (plainCell_ok (h1 v hv) n e).2.2⟩
    refine (List.map_id' cs.toList).symm.trans (List.map_congr_left fun v hv => (plainCell_ok (h1 v hv) n e).1.symm)
  | _ => exact ⟨(plainCell_ok (plain_cell h (by simp)) n e).2.1, (plainCell_ok (plain_cell h (by simp)) n e).1.symm⟩

/-- the frame -/
structure RF (n : Nat) (e : Env) (fr : Fr) (a : Act) : Prop where
  glob : Glob n e
  vals : ∀ t v, fr.get t = some v → ∃ v', a.tmps[t]? = some v' ∧ RV n e v v'

theorem RF.mono {n m : Nat} {e e' : Env} {fr : Fr} {a : Act} (h : RF n e fr a) (hn : n ≤ m) (ha : Agree n e e') : RF m e' fr a :=
  ⟨h.glob.mono hn ha, fun t v hv => let ⟨v', h1, h2⟩ := h.vals t v hv; ⟨v', h1, h2.mono hn ha⟩⟩

/-- the operand's value -/
def LK (n : Nat) (e : Env) (fr : Fr) (a : Act) (x : Operand) : Prop := ∀ v, look fr x = some v → RV n e v (a.eval x)

theorem RF.look {n : Nat} {e : Env} {fr : Fr} {a : Act} (h : RF n e fr a) (x : Operand) : LK n e fr a x := by
  intro v hv
  cases x with
  | tmp t =>
    obtain ⟨v', h1, h2⟩ := h.vals t v hv
    have : a.eval (.tmp t) = v' := by simp [Act.eval, h1]
    rw [this]; exact h2
  | const c =>
    have hv' : (bif plain c then some c else none) = some v := hv
    cases hp : plain c with
    | false => rw [hp] at hv'; cases hv'
    | true =>
      rw [hp] at hv'
      cases hv'
      exact plain_ok hp n e
  | global g =>
    have hv' : (bif Nat.blt g 64 then some (Value.pointer (some ⟨g, 0, none⟩)) else none) = some v := hv
    cases hg : Nat.blt g 64 with
    | false => rw [hg] at hv'; cases hv'
    | true =>
      rw [hg] at hv'
      cases hv'
      have hlt : g < 64 := by rw [Nat.blt_eq] at hg; exact hg
      refine ⟨?_, ?_⟩
      · simp only [under]
        intro x hx
        cases hx
        exact Nat.lt_of_lt_of_le hlt h.glob.le
      · simp [conc, cA, Act.eval, h.glob.fix g hlt]
  | func f =>
    have hv' : some (Value.func (.func f) #[] #[]) = some v := hv
    cases hv'
    exact ⟨by simp [under, underA, underL], by simp [conc, cFn, concA, concL, Act.eval]⟩

theorem RF.put {n : Nat} {e : Env} {fr : Fr} {a : Act} (h : RF n e fr a) {d : Option Tmp} {v v' : Value} (hd : ∀ t, d = some t → t < a.tmps.size) (hv : RV n e v v') :
    RF n e (putT fr d v) (a.put d v') := by
  cases d with
  | none => exact h
  | some d =>
    refine ⟨h.glob, fun t u hu => ?_⟩
    have hu' : (T.set fr d (some v)).get t = some u := hu
    rw [T.get_set] at hu'
    simp only [Act.put]
    split at hu'
    · rename_i hdt
      subst hdt
      cases hu'
      exact ⟨v', by simp [hd d rfl], hv⟩
    · rename_i hdt
      obtain ⟨w, h1, h2⟩ := h.vals t u hu'
      exact ⟨w, by rw [Array.getElem?_setIfInBounds_ne hdt]; exact h1, h2⟩

/-- the operation does in the world what it does in the evaluator -/
def Does (P : Program) (s : Sem Next) (h : Hp) (e : Env) (w : World) (v : Value) (h' : Hp) : Prop :=
  ∃ e' w' v', (s.run P w = .ok (.value v') w' ∨ (s.run P w = .ok .skip w' ∧ v' = undef)) ∧ Rel P h' e' w' ∧ Stp h e w h' e' w' ∧ RV h'.next e' v v'

theorem Does.still {s : Sem Next} {h : Hp} {e : Env} {w : World} {v v' : Value} (r : Rel P h e w) (hs : s.run P w = .ok (.value v') w) (hv : RV h.next e v v') : Does P s h e w v h :=
  ⟨e, w, v', .inl hs, r, Stp.refl _ _ _, hv⟩

theorem val_pure {α : Type} {s : Sem α} {a : α} (h : val? s = some a) : s = .pure a := by
  cases s <;> simp [val?] at h
  rw [h]

end Go.Ev
namespace Go.Ev
variable {P : Program}

theorem run_v {s : Sem Value} {w w' : World} {v : Value} (h : s.run P w = .ok v w') : (do pure (Next.value (← s)) : Sem Next).run P w = .ok (.value v) w' := by
  simp only [Sem.run_bind, h, Result.andThen_ok, Sem.run_pure]
theorem run_u {s : Sem Unit} {w w' : World} (h : s.run P w = .ok () w') : (do s; pure Next.skip : Sem Next).run P w = .ok .skip w' := by
  simp only [Sem.run_bind, h, Result.andThen_ok, Sem.run_pure]

theorem und {t : TypeId} {d : TypeDesc} (h : P.underlying t = some d) (w : World) : (underlying t).run P w = .ok d w := run_underlying h w
theorem szOf_run {t n : Nat} (h : szOf P t = some n) (w : World) : (Go.sizeOf t).run P w = .ok n w := by
  unfold szOf at h
  split at h
  · cases h
  · rename_i i hi
    cases h
    simp [Go.sizeOf, typeInfo, program, Sem.run_bind, Sem.run, hi]
theorem isAggT_run {t : Nat} {b : Bool} (h : isAggT P t = some b) (w : World) : (isAgg t).run P w = .ok b w := by
  unfold isAggT at h
  unfold isAgg
  cases hd : P.underlying t with
  | none => rw [hd] at h; cases h
  | some d =>
    rw [hd] at h
    simp only [Sem.run_bind, und hd, Result.andThen_ok]
    cases d <;> cases h <;> rfl

/-- the cells of a block are read one after another -/
theorem loadCellsFrom_run {w : World} {a : Addr} {l' : List Value} : ∀ (n i : Nat) (acc : Array Value), (∀ j, j < n → w.cell? (a.add (i + j)) = l'[i + j]?) → i + n ≤ l'.length →
    (loadCellsFrom a i n acc).run P w = .ok (acc ++ ((l'.drop i).take n).toArray) w := by
  intro n
  induction n with
  | zero => intro i acc _ _; simp [loadCellsFrom, Sem.run_pure]
  | succ n ih =>
    intro i acc hc hle
    have h0 := hc 0 (by omega)
    simp only [Nat.add_zero] at h0
    have hlt : i < l'.length := by omega
    rw [List.getElem?_eq_getElem hlt] at h0
    have hs : loadCellsFrom a i (n + 1) acc = .load .plain (a.add i) (fun v => loadCellsFrom a (i + 1) n (acc.push v)) := rfl
    rw [hs]
    simp only [Sem.run, h0]
    rw [ih (i + 1) _ (fun j hj => by have := hc (j + 1) (by omega); rwa [show i + (j + 1) = i + 1 + j by omega] at this) (by omega)]
    congr 1
    have he : (l'.drop i).take (n + 1) = l'[i] :: (l'.drop (i + 1)).take n := by rw [List.drop_eq_getElem_cons hlt, List.take_succ_cons]
    rw [he]
    apply Array.ext'
    simp only [Array.toList_append, Array.toList_push, List.append_assoc, List.singleton_append]

theorem loadCells_run {h : Hp} {e : Env} {w : World} (r : Rel P h e w) {a : Addr} {n : Nat} {l : List Value} (hr : rd h a n = some l) :
    ∃ l', RC h.next e l l' ∧ (loadCells (cA e a) n).run P w = .ok l'.toArray w := by
  obtain ⟨hl, l', hrc, hc⟩ := rd_ok r hr
  have hl' : l'.length = n := by rw [hrc.rl.length, hl]
  refine ⟨l', hrc, ?_⟩
  unfold loadCells
  rw [loadCellsFrom_run (l' := l') n 0 #[] (fun j hj => by simpa using hc j hj) (by omega)]
  simp [← hl']

theorem load_cell {w : World} {a : Addr} {v : Value} (h : w.cell? a = some v) : (load a).run P w = .ok v w := by
  simp [load, Sem.run, h]

/-- a variable is read -/
theorem loadA_ok {h : Hp} {e : Env} {w : World} (r : Rel P h e w) {t : TypeId} {a : Addr} {v : Value} (hl : loadA P h t a = some v) :
    ∃ v', (loadVar t (cA e a)).run P w = .ok v' w ∧ RV h.next e v v' := by
  unfold loadA at hl
  unfold loadVar
  cases ha : isAggT P t with
  | none => rw [ha] at hl; cases hl
  | some b =>
    rw [ha] at hl
    simp only [Sem.run_bind, isAggT_run ha, Result.andThen_ok]
    cases b with
    | true =>
      cases hs : szOf P t with
      | none => rw [hs] at hl; cases hl
      | some n =>
        rw [hs] at hl
        cases hr : rd h a n with
        | none => simp only [hr] at hl; cases hl
        | some l =>
          simp only [hr] at hl
          cases hl
          obtain ⟨l', hrc, hrun⟩ := loadCells_run r hr
          refine ⟨.agg l'.toArray, ?_, RV.agg (by simpa using hrc)⟩
          simp only [if_true, Sem.run_bind, szOf_run hs, Result.andThen_ok, hrun, Sem.run_pure]
    | false =>
      obtain ⟨v', h1, h2, _⟩ := rd1_ok r hl
      exact ⟨v', by simp [load_cell h1], h2⟩

/-- a variable is written -/
theorem storeA_ok {h h' : Hp} {e : Env} {w : World} (r : Rel P h e w) {t : TypeId} {a : Addr} {v v' : Value} (hl : storeA P h t a v = some h') (hv : RV h.next e v v') :
    ∃ w', (storeVar t (cA e a) v').run P w = .ok () w' ∧ Rel P h' e w' ∧ Stp h e w h' e w' := by
  unfold storeA at hl
  unfold storeVar
  cases hs : szOf P t with
  | none => rw [hs] at hl; cases hl
  | some n =>
    rw [hs] at hl
    have hnt : ∀ vs, v ≠ .tuple vs := by rintro vs rfl; cases hl
    have hc := hv.cells hnt
    have hl' : (bif Nat.beq v.cells.toList.length n then wr h a v.cells.toList else none) = some h' := by
      cases v <;> first | exact hl | exact absurd rfl (hnt _)
    cases hb : Nat.beq v.cells.toList.length n with
    | false => rw [hb] at hl'; cases hl'
    | true =>
      rw [hb] at hl'
      obtain ⟨w', h1, h2, h3, _⟩ := wr_ok r hl' hc
      have hlen : v'.cells.size = n := by
        rw [← Array.length_toList, hc.rl.length]
        exact Nat.eq_of_beq_eq_true hb
      refine ⟨w', ?_, h2, h3⟩
      simp only [Sem.run_bind, szOf_run hs, Result.andThen_ok, hlen, ne_eq, not_true, if_false, Sem.run_pure, h1]

end Go.Ev
namespace Go.Ev
variable {P : Program}

theorem zeroL_run {t : TypeId} {z : List Value} (h : zeroL P t = some z) (w : World) : ∃ v, (zeroValue t).run P w = .ok v w ∧ v.cells.toList = z ∧ ∀ x ∈ z, plainCell x = true := by
  unfold zeroL at h
  cases hi : P.info? t with
  | none => rw [hi] at h; cases h
  | some i =>
    rw [hi] at h
    cases hz : i.zero with
    | none => simp only [hz] at h; cases h
    | some v =>
      simp only [hz] at h
      cases hp : v.cells.toList.all plainCell with
      | false => rw [hp] at h; cases h
      | true =>
        rw [hp] at h
        cases h
        exact ⟨v, by simp [zeroValue, typeInfo, program, Sem.run_bind, Sem.run, hi, hz], rfl, fun x hx => List.all_eq_true.1 hp x hx⟩

theorem RC.plain {l : List Value} (h : ∀ x ∈ l, plainCell x = true) (n : Nat) (e : Env) : RC n e l l :=
  ⟨⟨fun v hv => (plainCell_ok (h v hv) n e).2.1, (List.map_id' l).symm.trans (List.map_congr_left fun v hv => (plainCell_ok (h v hv) n e).1.symm)⟩, fun v hv => (plainCell_ok (h v hv) n e).2.2⟩

/-- a new row that is no open one -/
theorem newRow_ok {h : Hp} {e : Env} {w : World} (r : Rel P h e w) (elem : TypeId) {c : List Value} {cs : Array Value} (hc : RC h.next e c cs.toList) :
    ∃ e' w', (newRow elem cs).run P w = .ok ⟨e'.phi h.next, 0, none⟩ w' ∧ Rel P (h.new (.cells c elem false)) e' w' ∧ Stp h e w (h.new (.cells c elem false)) e' w' := by
  have hag := e.ext_agree h.next w.heap.size 0
  obtain ⟨h1, h2⟩ := r.new (w' := World.alloc' w (.cells cs elem (0, 0))) (.cells c elem false) (.cells cs elem (0, 0)) 0 rfl
    ⟨cs, by rw [Env.ext_phi]; show (w.heap.push _)[w.heap.size]? = _; exact Array.getElem?_push_size, by rw [if_neg (by simp)]; exact hc.mono (by omega) hag⟩
  exact ⟨_, _, by simp [newRow, newObj, Sem.run_bind, Sem.run, World.alloc'], h1, h2⟩

theorem RV.newPtr {h : Hp} (e : Env) (x : Blk) : RV (h.new x).next e (newPtr h) (.pointer (some ⟨e.phi h.next, 0, none⟩)) :=
  ⟨by simp [Ev.newPtr, Ev.under], by simp [Ev.newPtr, conc, cA]⟩

section
variable {call : CallF} {fr : Fr} {h h' : Hp} {e : Env} {w : World} {a : Act} {v : Value} {o : Oper}

theorem oMove_ok {x : Operand} (r : Rel P h e w) (hx : LK h.next e fr a x) (ho : oMove x P call fr h = some (v, h')) :
    ∃ v', h' = h ∧ RV h.next e v (a.eval x) ∧ v' = a.eval x := by
  unfold oMove at ho
  cases hl : look fr x with
  | none => rw [hl] at ho; cases ho
  | some u =>
    rw [hl] at ho
    cases ho
    exact ⟨_, rfl, hx _ hl, rfl⟩

theorem does_move {x : Operand} (hop : o.op = .move x ∨ o.op = .assign x) (r : Rel P h e w) (hx : LK h.next e fr a x) (ho : oMove x P call fr h = some (v, h')) :
    Does P (execOp a.eval o) h e w v h' := by
  obtain ⟨_, rfl, h2, _⟩ := oMove_ok r hx ho
  refine Does.still r ?_ h2
  rcases hop with hop | hop <;> simp [execOp, hop, Sem.run_pure]

theorem does_pick {c x y : Operand} (hop : o.op = .pick c x y) (r : Rel P h e w) (hc : LK h.next e fr a c) (hx : LK h.next e fr a x) (hy : LK h.next e fr a y)
    (ho : oPick c x y P call fr h = some (v, h')) : Does P (execOp a.eval o) h e w v h' := by
  unfold oPick at ho
  split at ho
  · rename_i hb
    have hcv := (hc _ hb).eq
    simp only [conc] at hcv
    split at ho
    · cases ho
    · rename_i u hu
      cases ho
      exact Does.still r (by simp [execOp, hop, hcv, asBool, Sem.run_bind, Sem.run_pure]) (hx _ hu)
  · rename_i hb
    have hcv := (hc _ hb).eq
    simp only [conc] at hcv
    split at ho
    · cases ho
    · rename_i u hu
      cases ho
      exact Does.still r (by simp [execOp, hop, hcv, asBool, Sem.run_bind, Sem.run_pure]) (hy _ hu)
  · cases ho

theorem does_load {t : TypeId} {x : Operand} (hop : o.op = .load t x) (r : Rel P h e w) (hx : LK h.next e fr a x)
    (ho : oLoad t x P call fr h = some (v, h')) : Does P (execOp a.eval o) h e w v h' := by
  unfold oLoad at ho
  split at ho
  · rename_i ad hb
    have hcv := (hx _ hb).eq
    simp only [conc, Option.map_some] at hcv
    split at ho
    · cases ho
    · rename_i u hu
      cases ho
      obtain ⟨v', h1, h2⟩ := loadA_ok r hu
      refine Does.still r ?_ h2
      simp only [execOp, hop]
      exact run_v (by simp [Instr.loadAt, Instr.sureAddr, hcv, Sem.run_bind, Sem.run_pure, h1])
  · cases ho

theorem does_store {t : TypeId} {x y : Operand} (hop : o.op = .store t x y) (r : Rel P h e w) (hx : LK h.next e fr a x) (hy : LK h.next e fr a y)
    (ho : oStore t x y P call fr h = some (v, h')) : Does P (execOp a.eval o) h e w v h' := by
  unfold oStore at ho
  split at ho
  · rename_i ad u hb hu
    have hcv := (hx _ hb).eq
    simp only [conc, Option.map_some] at hcv
    split at ho
    · cases ho
    · rename_i k hk
      cases ho
      obtain ⟨w', h1, h2, h3⟩ := storeA_ok r hk (hy _ hu)
      refine ⟨e, w', undef, .inr ⟨?_, rfl⟩, h2, h3, ⟨by simp [undef, under, underA, underL], by simp [undef, conc, concA, concL]⟩⟩
      simp only [execOp, hop]
      exact run_u (by simp [Instr.storeAt, Instr.sureAddr, hcv, Sem.run_bind, Sem.run_pure, h1])
  · cases ho

theorem does_alloc {t : TypeId} (hop : o.op = .alloc t) (r : Rel P h e w)
    (ho : oAlloc t P call fr h = some (v, h')) : Does P (execOp a.eval o) h e w v h' := by
  unfold oAlloc at ho
  split at ho
  · cases ho
  · rename_i z hz
    cases ho
    obtain ⟨zv, h1, h2, h3⟩ := zeroL_run hz w
    obtain ⟨e', w', h4, h5, h6⟩ := newRow_ok r t (c := z) (cs := zv.cells) (by rw [h2]; exact RC.plain h3 _ _)
    refine ⟨e', w', _, .inl ?_, h5, h6, RV.newPtr e' _⟩
    simp only [execOp, hop]
    exact run_v (by simp [Instr.alloc, newVar, Sem.run_bind, Sem.run_pure, h1, h4])

end
end Go.Ev
namespace Go.Ev
variable {P : Program}
section
variable {call : CallF} {fr : Fr} {h h' : Hp} {e : Env} {w : World} {a : Act} {v : Value} {o : Oper}

theorem does_extract {x : Operand} {i : Nat} (hop : o.op = .extract x i) (r : Rel P h e w) (hx : LK h.next e fr a x)
    (ho : oExtract x i P call fr h = some (v, h')) : Does P (execOp a.eval o) h e w v h' := by
  unfold oExtract at ho
  split at ho
  · rename_i vs hb
    have hk := hx _ hb
    have hcv := hk.eq
    simp only [conc] at hcv
    split at ho
    · cases ho
    · rename_i u hu
      cases ho
      have hun := hk.under
      simp only [under, underA_iff] at hun
      refine Does.still r (v' := conc e v) ?_ ⟨hun v (List.mem_of_getElem? hu), rfl⟩
      simp only [execOp, hop]
      refine run_v ?_
      have : (concA e vs)[i]? = some (conc e v) := by
        rw [concA_map, Array.getElem?_map, ← Array.getElem?_toList, hu]; rfl
      simp [Instr.extract, hcv, this, Sem.run_pure]
  · cases ho

theorem lookAll_ok {n : Nat} : ∀ {l : List Operand} {vs : List Value}, lookAll fr l = some vs → (∀ x ∈ l, LK n e fr a x) → RL n e vs (l.map a.eval)
  | [], vs, h, _ => by simp [lookAll] at h; subst h; exact RL.nil
  | x :: l, vs, h, hk => by
    simp only [lookAll] at h
    split at h
    · cases h
    · rename_i u hu
      split at h
      · cases h
      · rename_i us hus
        cases h
        exact RL.cons (hk x (by simp) _ hu) (lookAll_ok hus fun y hy => hk y (by simp [hy]))

theorem concA_of_RL {n : Nat} {l l' : List Value} (h : RL n e l l') : (⟨l'⟩ : Array Value) = concA e ⟨l⟩ := by simp [concA, concL_map, h.2]

theorem does_makeFunc {fn : Fn} {first captured : Array Operand} (hop : o.op = .makeFunc fn first captured) (r : Rel P h e w)
    (hx : ∀ x ∈ first.toList, LK h.next e fr a x) (hy : ∀ x ∈ captured.toList, LK h.next e fr a x)
    (ho : oMakeFunc fn first captured P call fr h = some (v, h')) : Does P (execOp a.eval o) h e w v h' := by
  have hfn : ∀ l, fn ≠ .yield l := by rintro l rfl; cases ho
  have ho : (match lookAll fr first.toList, lookAll fr captured.toList with
    | some a, some b => some (Value.func fn ⟨a⟩ ⟨b⟩, h)
    | _, _ => none) = some (v, h') := by
    unfold oMakeFunc at ho
    cases fn <;> first | exact ho | exact absurd rfl (hfn _)
  split at ho
  · rename_i us vs hu hv
    cases ho
    have h1 := lookAll_ok hu hx
    have h2 := lookAll_ok hv hy
    refine Does.still r (v' := .func fn (first.map a.eval) (captured.map a.eval)) (by simp only [execOp, hop]; exact run_v rfl) ⟨?_, ?_⟩
    · simp only [under, underA, underL_iff]
      exact ⟨fun l hl => absurd hl (hfn l), h1.1, h2.1⟩
    · have hf : cFn e fn = fn := by cases fn <;> first | rfl | exact absurd rfl (hfn _)
      simp only [conc, hf, ← concA_of_RL h1, ← concA_of_RL h2]
      congr 1 <;> (apply Array.ext'; simp)
  · cases ho

theorem does_box {t : TypeId} {x : Operand} (hop : o.op = .box t x) (r : Rel P h e w) (hx : LK h.next e fr a x)
    (ho : oBox t x P call fr h = some (v, h')) : Does P (execOp a.eval o) h e w v h' := by
  unfold oBox at ho
  split at ho
  · cases ho
  · cases ho
  · rename_i u hnt hu
    cases ho
    obtain ⟨e', w', h4, h5, h6⟩ := newRow_ok r t ((hx _ hu).cells (fun vs hv => hnt vs hv))
    refine ⟨e', w', _, .inl ?_, h5, h6, RV.newPtr e' _⟩
    simp only [execOp, hop]
    exact run_v (by simp [Instr.box, newVar, Sem.run_bind, Sem.run_pure, h4])

end
end Go.Ev
namespace Go.Ev
variable {P : Program}

theorem addrAdd_eq (a : Addr) (n : Nat) : addrAdd a n = a.add n := by
  unfold addrAdd Addr.add
  cases h : Nat.beq n 0 with
  | true => have := Nat.eq_of_beq_eq_true h; simp [this]
  | false => have : n ≠ 0 := by rintro rfl; simp at h
             rw [cond_false, if_neg this]; rfl
theorem cA_add (e : Env) (a : Addr) (n : Nat) (h : a.spot = none) : cA e (addrAdd a n) = (cA e a).add n := by
  rw [addrAdd_eq]
  unfold Addr.add cA
  split
  · rfl
  · simp [h]
theorem isNone_spot {a : Addr} (h : a.spot.isNone = true) : a.spot = none := by simpa using h
theorem addrAdd_block (a : Addr) (n : Nat) : (addrAdd a n).block = a.block := by
  rw [addrAdd_eq]; unfold Addr.add; split <;> rfl
theorem szOf_cells {t n : Nat} (h : szOf P t = some n) : P.cellsOf t = n := by
  unfold szOf at h
  unfold Program.cellsOf
  split at h
  · cases h
  · rename_i i hi; cases h; simp [hi]

theorem RV.ptr {n : Nat} {e : Env} {a : Addr} (h : a.block < n) : RV n e (.pointer (some a)) (.pointer (some (cA e a))) :=
  ⟨by simpa [Ev.under] using h, by simp [conc]⟩
theorem RV.ptr_inv {n : Nat} {e : Env} {a : Addr} {v' : Value} (h : RV n e (.pointer (some a)) v') : a.block < n ∧ v' = .pointer (some (cA e a)) :=
  ⟨by have := h.under; simpa [Ev.under] using this, by have := h.eq; simpa [conc] using this⟩
theorem RV.int_inv {n : Nat} {e : Env} {k : IntKind} {i : Int} {v' : Value} (h : RV n e (.int k i) v') : v' = .int k i := by have := h.eq; simpa [conc] using this
theorem RV.int {n : Nat} {e : Env} {k : IntKind} {i : Int} : RV n e (.int k i) (.int k i) := ⟨by simp [Ev.under], by simp [conc]⟩
theorem RV.bool {n : Nat} {e : Env} {b : Bool} : RV n e (.bool b) (.bool b) := ⟨by simp [Ev.under], by simp [conc]⟩
theorem RV.string {n : Nat} {e : Env} {b : ByteArray} : RV n e (.string b) (.string b) := ⟨by simp [Ev.under], by simp [conc]⟩

section
variable {call : CallF} {fr : Fr} {h h' : Hp} {e : Env} {w : World} {a : Act} {v : Value} {o : Oper}

theorem does_fieldAddr {s : TypeId} {x : Operand} {i : Nat} (hop : o.op = .fieldAddr s x i) (r : Rel P h e w) (hx : LK h.next e fr a x)
    (ho : oFieldAddr s x i P call fr h = some (v, h')) : Does P (execOp a.eval o) h e w v h' := by
  unfold oFieldAddr at ho
  split at ho
  · rename_i fs ad hu hb
    obtain ⟨hlt, hcv⟩ := (hx _ hb).ptr_inv
    split at ho
    · cases ho
    · rename_i f hf
      split at ho
      · rename_i n hs
        cases hsp : ad.spot.isNone with
        | false => rw [hsp] at ho; cases ho
        | true =>
        rw [hsp] at ho
        cases ho
        have hadd : (bif Nat.beq f.offset 0 then ad else addrAdd ad f.offset) = addrAdd ad f.offset := by
          cases hb : Nat.beq f.offset 0 with
          | true => rw [cond_true]; unfold addrAdd; rw [hb, cond_true]
          | false => rfl
        rw [hadd]
        refine Does.still r (v' := .pointer (some ((cA e ad).add f.offset))) ?_ ?_
        · simp only [execOp, hop]
          have hf' : fs[i]? = some f := by rw [← Array.getElem?_toList]; exact hf
          refine run_v ?_
          simp [Instr.fieldAt, Instr.sureAddr, fieldPlace, Sem.run_bind, Sem.run_pure, und hu, hf', hcv, szOf_run hs]
        · rw [← cA_add _ _ _ (isNone_spot hsp)]
          exact RV.ptr (by rw [addrAdd_block]; exact hlt)
      · cases ho
  · cases ho

theorem does_makeInterface {t : TypeId} {x : Operand} (hop : o.op = .makeInterface t x) (r : Rel P h e w) (hx : LK h.next e fr a x)
    (ho : oMakeInterface t x P call fr h = some (v, h')) : Does P (execOp a.eval o) h e w v h' := by
  unfold oMakeInterface at ho
  split at ho
  · cases ho
  · rename_i d u hnot hd hb
    cases ho
    have hk := hx _ hb
    refine Does.still r (v' := .iface t (a.eval x)) ?_ ⟨by simp only [under]; exact hk.under, by simp only [conc, hk.eq]⟩
    simp only [execOp, hop]
    refine run_v ?_
    simp only [Instr.makeInterface, Sem.run_bind, und hd, Result.andThen_ok]
    cases d <;> first | rfl | exact absurd hd (hnot _)
  · cases ho

theorem unary_bool {op : UnOp} {b : Bool} {v : Value} (h : Op.unary op (.bool b) = .pure v) (n : Nat) (e : Env) : RV n e v v := by
  cases op <;> simp [Op.unary, unsupported, stuck] at h
  all_goals first | (cases h; exact RV.bool) | (subst h; exact RV.bool)
theorem unary_int {op : UnOp} {k : IntKind} {m : Int} {v : Value} (h : Op.unary op (.int k m) = .pure v) (n : Nat) (e : Env) : RV n e v v := by
  cases op <;> simp [Op.unary, Op.intArith, Op.intBits, stuck] at h
  all_goals first | (cases h; exact RV.int) | (subst h; exact RV.int)

theorem does_unOp {op : UnOp} {t : TypeId} {x : Operand} (hop : o.op = .unOp op t x) (r : Rel P h e w) (hx : LK h.next e fr a x)
    (ho : oUnOp op t x P call fr h = some (v, h')) : Does P (execOp a.eval o) h e w v h' := by
  unfold oUnOp at ho
  split at ho
  · rename_i b hu
    split at ho
    · cases ho
    · rename_i y hy
      cases ho
      have hp := val_pure hy
      have hau : a.eval x = .bool b := by have := (hx _ hu).eq; simpa [conc] using this
      exact Does.still r (v' := v) (by simp only [execOp, hop, hau, hp]; rfl) (unary_bool hp _ _)
  · rename_i k m hu
    split at ho
    · cases ho
    · rename_i y hy
      cases ho
      have hp := val_pure hy
      have hau : a.eval x = .int k m := by have := (hx _ hu).eq; simpa [conc] using this
      exact Does.still r (v' := v) (by simp only [execOp, hop, hau, hp]; rfl) (unary_int hp _ _)
  · cases ho

end
end Go.Ev
namespace Go.Ev
variable {P : Program}
section
variable {call : CallF} {fr : Fr} {h h' : Hp} {e : Env} {w : World} {a : Act} {v : Value} {o : Oper}

theorem RV.slice_inv {n : Nat} {e : Env} {ad : Option Addr} {l c : Nat} {v' : Value} (h : RV n e (.slice ad l c) v') :
    (∀ x, ad = some x → x.block < n) ∧ v' = .slice (ad.map (cA e)) l (cCap e ad c) :=
  ⟨by have := h.under; simpa only [Ev.under] using this, by have := h.eq; simpa only [conc] using this⟩

theorem does_indexAddr {t : TypeId} {x i : Operand} (hop : o.op = .indexAddr t x i) (r : Rel P h e w) (hx : LK h.next e fr a x) (hi : LK h.next e fr a i)
    (ho : oIndexAddr t x i P call fr h = some (v, h')) : Does P (execOp a.eval o) h e w v h' := by
  unfold oIndexAddr at ho
  split at ho
  · rename_i el ad len cap k n hu hb hn
    obtain ⟨hlt, hcv⟩ := (hx _ hb).slice_inv
    have hiv := (hi _ hn).int_inv
    split at ho
    · cases ho
    · rename_i sz hs
      cases hc : (Nat.blt n len && ad.spot.isNone) with
      | false => rw [hc] at ho; cases ho
      | true =>
        rw [hc] at ho
        cases ho
        rw [Bool.and_eq_true] at hc
        have hnl : n < len := by have := hc.1; rwa [Nat.blt_eq] at this
        refine Does.still r (v' := .pointer (some ((cA e ad).add (n * sz)))) ?_ ?_
        · simp only [execOp, hop]
          refine run_v ?_
          simp [Instr.indexAt, asIntOf, Sem.run_bind, Sem.run_pure, und hu, hcv, hiv, szOf_run hs, hnl]
        · rw [show n * sz = Nat.mul n sz from rfl, ← cA_add _ _ _ (isNone_spot hc.2)]
          exact RV.ptr (by rw [addrAdd_block]; exact hlt _ rfl)
  · rename_i len el ad k n hu hb hn
    obtain ⟨hlt, hcv⟩ := (hx _ hb).ptr_inv
    have hiv := (hi _ hn).int_inv
    split at ho
    · cases ho
    · rename_i sz hs
      cases hc : (Nat.blt n len && ad.spot.isNone) with
      | false => rw [hc] at ho; cases ho
      | true =>
        rw [hc] at ho
        cases ho
        rw [Bool.and_eq_true] at hc
        have hnl : n < len := by have := hc.1; rwa [Nat.blt_eq] at this
        refine Does.still r (v' := .pointer (some ((cA e ad).add (n * sz)))) ?_ ?_
        · simp only [execOp, hop]
          refine run_v ?_
          simp [Instr.indexAt, Instr.sureAddr, asIntOf, Sem.run_bind, Sem.run_pure, und hu, hcv, hiv, szOf_run hs, hnl]
        · rw [show n * sz = Nat.mul n sz from rfl, ← cA_add _ _ _ (isNone_spot hc.2)]
          exact RV.ptr (by rw [addrAdd_block]; exact hlt)
  · cases ho

end
end Go.Ev
namespace Go.Ev
variable {P : Program}

theorem slowInt_ok {op : BinOp} {k k' : IntKind} {a b : Int} {v : Value} (h : slowInt op k a k' b = some v) (t : TypeId) : binOp op t (.int k a) (.int k' b) = .pure v := by
  cases op with
  | shl => exact val_pure h
  | shr => exact val_pure h
  | _ =>
    simp only [slowInt] at h
    cases hk : (k == k') with
    | false => rw [hk] at h; cases h
    | true =>
      rw [hk, cond_true] at h
      have hk' : k = k' := by simpa using hk
      subst hk'
      have := val_pure h
      simpa [binOp] using this

theorem eqK_eq {k k' : IntKind} (h : eqK k k' = true) : k = k' := by
  cases k <;> cases k' <;> first | rfl | cases h

def scal : Value → Bool
  | .int .. | .bool _ => true
  | _ => false
theorem RV.scal {n : Nat} {e : Env} {v : Value} (h : Ev.scal v = true) : RV n e v v := by
  cases v <;> first | exact RV.int | exact RV.bool | cases h
theorem scal_arith {op : BinOp} {k : IntKind} {a b : Int} {v : Value} (h : Op.intArith op k a b = .pure v) : scal v = true := by
  cases op <;> first | (cases h; rfl) | cases h
theorem scal_cmp {op : BinOp} {a b : Int} {v : Value} (h : Op.intCmp op a b = .pure v) : scal v = true := by
  cases op <;> first | (cases h; rfl) | cases h
theorem scal_bits {op : BinOp} {k : IntKind} {a b : Int} {v : Value} (h : Op.intBits op k a b = .pure v) : scal v = true := by
  cases op <;> first | (cases h; rfl) | cases h
theorem scal_div {op : BinOp} {k : IntKind} {a b : Int} {v : Value} (h : Op.intDiv op k a b = .pure v) : scal v = true := by
  unfold Op.intDiv at h
  split at h
  · cases h
  · cases op <;> first | (cases h; rfl) | cases h
theorem scal_shift {op : BinOp} {k k' : IntKind} {a b : Int} {v : Value} (h : Op.shift op k a k' b = .pure v) : scal v = true := by
  unfold Op.shift at h
  split at h
  · cases h
  · cases op <;> first | (cases h; rfl) | cases h

theorem slowInt_scal {op : BinOp} {k k' : IntKind} {a b : Int} {v : Value} (h : slowInt op k a k' b = some v) : scal v = true := by
  cases op with
  | shl => exact scal_shift (val_pure h)
  | shr => exact scal_shift (val_pure h)
  | _ =>
    simp only [slowInt] at h
    cases hk : (k == k') with
    | false => rw [hk] at h; cases h
    | true =>
      rw [hk, cond_true] at h
      have := val_pure h
      first | exact scal_arith this | exact scal_cmp this | exact scal_bits this | exact scal_div this

theorem wrap_small {k : IntKind} {n : Nat} (h : n < topOf k) : k.wrap (.ofNat n) = .ofNat n := by
  have e : ((Int.ofNat n : Int)) = (n : Int) := rfl
  rw [e]
  cases k <;> simp only [topOf] at h <;> simp only [IntKind.wrap, IntKind.bits, IntKind.signed] <;> simp <;> omega
theorem wrapU_eq (k : IntKind) (n : Nat) : wrapU k n = k.wrap (.ofNat n) := by
  have gen : ∀ k : IntKind, (bif Nat.blt n (topOf k) then Int.ofNat n else k.wrap (.ofNat n)) = k.wrap (.ofNat n) := by
    intro k
    cases h : Nat.blt n (topOf k) with
    | true => rw [cond_true, wrap_small (by rwa [Nat.blt_eq] at h)]
    | false => rfl
  cases k with
  | u64 => simp [wrapU, IntKind.wrap, IntKind.bits, IntKind.signed]; rfl
  | u8 => simp [wrapU, IntKind.wrap, IntKind.bits, IntKind.signed]; rfl
  | _ => exact gen _

theorem binOp_same (op : BinOp) (t : TypeId) (k : IntKind) (a b : Int) (h1 : op ≠ .shl) (h2 : op ≠ .shr) : binOp op t (.int k a) (.int k b) =
    (match op with
    | .add | .sub | .mul => Op.intArith op k a b
    | .quo | .rem => Op.intDiv op k a b
    | .and | .or | .xor | .andNot => Op.intBits op k a b
    | _ => Op.intCmp op a b) := by
  cases op <;> first | exact absurd rfl h1 | exact absurd rfl h2 | simp [binOp]

noncomputable def xorK (k k' : IntKind) (a b : Nat) : Option Value :=
  match k with
  | .u64 => some (.int .u64 (.ofNat (Nat.xor (Nat.mod a 18446744073709551616) (Nat.mod b 18446744073709551616))))
  | k => slowN .xor k k' a b
theorem natOp_ok {op : BinOp} {k k' : IntKind} {a b : Nat} {v : Value} (h : natOp op k k' a b = some v) (t : TypeId) :
    binOp op t (.int k (.ofNat a)) (.int k' (.ofNat b)) = .pure v ∧ scal v = true := by
  have chk : ∀ {x : Option Value}, (bif eqK k k' then x else none) = some v → k = k' ∧ x = some v := by
    intro x hx
    cases he : eqK k k' with
    | false => rw [he] at hx; cases hx
    | true => rw [he] at hx; exact ⟨eqK_eq he, hx⟩
  have blt : ∀ x y : Nat, Nat.blt x y = decide ((Int.ofNat x) < Int.ofNat y) := by
    intro x y; rw [Bool.eq_iff_iff, Nat.blt_eq]; simp
  have ble : ∀ x y : Nat, Nat.ble x y = decide ((Int.ofNat x) ≤ Int.ofNat y) := by
    intro x y; rw [Bool.eq_iff_iff, Nat.ble_eq]; simp
  have beq : ∀ x y : Nat, Nat.beq x y = (Int.ofNat x == Int.ofNat y) := by
    intro x y; rw [Bool.eq_iff_iff, Nat.beq_eq]; simp; omega
  cases op with
  | add =>
    obtain ⟨hke, hx⟩ := chk (x := some (.int k (wrapU k (Nat.add a b)))) h
    subst hke; cases hx
    refine ⟨?_, rfl⟩
    rw [binOp_same _ _ _ _ _ (by simp) (by simp), wrapU_eq]
    rfl
  | mul =>
    obtain ⟨hke, hx⟩ := chk (x := some (.int k (wrapU k (Nat.mul a b)))) h
    subst hke; cases hx
    refine ⟨?_, rfl⟩
    rw [binOp_same _ _ _ _ _ (by simp) (by simp), wrapU_eq]
    rfl
  | quo =>
    have h : slowInt .quo k (.ofNat a) k' (.ofNat b) = some v := h
    exact ⟨slowInt_ok h t, slowInt_scal h⟩
  | rem =>
    have h : slowInt .rem k (.ofNat a) k' (.ofNat b) = some v := h
    exact ⟨slowInt_ok h t, slowInt_scal h⟩
  | and =>
    have h : slowInt .and k (.ofNat a) k' (.ofNat b) = some v := h
    exact ⟨slowInt_ok h t, slowInt_scal h⟩
  | or =>
    have h : slowInt .or k (.ofNat a) k' (.ofNat b) = some v := h
    exact ⟨slowInt_ok h t, slowInt_scal h⟩
  | shl =>
    have h : slowInt .shl k (.ofNat a) k' (.ofNat b) = some v := h
    exact ⟨slowInt_ok h t, slowInt_scal h⟩
  | andNot =>
    have h : slowInt .andNot k (.ofNat a) k' (.ofNat b) = some v := h
    exact ⟨slowInt_ok h t, slowInt_scal h⟩
  | eql =>
    obtain ⟨hke, hx⟩ := chk (x := some (.bool (Nat.beq a b))) h
    subst hke; cases hx
    refine ⟨?_, rfl⟩
    rw [binOp_same _ _ _ _ _ (by simp) (by simp), beq]
    rfl
  | neq =>
    obtain ⟨hke, hx⟩ := chk (x := some (.bool (not (Nat.beq a b)))) h
    subst hke; cases hx
    refine ⟨?_, rfl⟩
    rw [binOp_same _ _ _ _ _ (by simp) (by simp), beq]
    rfl
  | lss =>
    obtain ⟨hke, hx⟩ := chk (x := some (.bool (Nat.blt a b))) h
    subst hke; cases hx
    refine ⟨?_, rfl⟩
    rw [binOp_same _ _ _ _ _ (by simp) (by simp), blt]
    rfl
  | leq =>
    obtain ⟨hke, hx⟩ := chk (x := some (.bool (Nat.ble a b))) h
    subst hke; cases hx
    refine ⟨?_, rfl⟩
    rw [binOp_same _ _ _ _ _ (by simp) (by simp), ble]
    rfl
  | gtr =>
    obtain ⟨hke, hx⟩ := chk (x := some (.bool (Nat.blt b a))) h
    subst hke; cases hx
    refine ⟨?_, rfl⟩
    rw [binOp_same _ _ _ _ _ (by simp) (by simp), blt]
    rfl
  | geq =>
    obtain ⟨hke, hx⟩ := chk (x := some (.bool (Nat.ble b a))) h
    subst hke; cases hx
    refine ⟨?_, rfl⟩
    rw [binOp_same _ _ _ _ _ (by simp) (by simp), ble]
    rfl
  | sub =>
    have h : (bif eqK k k' && Nat.ble b a && Nat.blt a (topOf k) then some (Value.int k (.ofNat (Nat.sub a b))) else slowN .sub k k' a b) = some v := h
    cases hc : (eqK k k' && Nat.ble b a && Nat.blt a (topOf k)) with
    | false => rw [hc, cond_false] at h; exact ⟨slowInt_ok h t, slowInt_scal h⟩
    | true =>
      rw [hc, cond_true] at h
      cases h
      rw [Bool.and_eq_true, Bool.and_eq_true] at hc
      have hk := eqK_eq hc.1.1
      subst hk
      have h1 : b ≤ a := Nat.le_of_ble_eq_true hc.1.2
      have h2 : a < topOf k := by have := hc.2; rwa [Nat.blt_eq] at this
      refine ⟨?_, rfl⟩
      rw [binOp_same _ _ _ _ _ (by simp) (by simp)]
      have h3 : (Int.ofNat a - Int.ofNat b) = Int.ofNat (a - b) := by simp; omega
      simp only [Op.intArith, h3, wrap_small (show a - b < topOf k by omega)]
      rfl
  | xor =>
    have h : (bif eqK k k' then xorK k k' a b else none) = some v := by cases k <;> exact h
    obtain ⟨hke, hx⟩ := chk h
    subst hke
    by_cases hk : k = .u64
    · subst hk
      cases hx
      refine ⟨?_, rfl⟩
      rw [binOp_same _ _ _ _ _ (by simp) (by simp)]
      have h1 : ∀ n : Nat, (BitVec.ofInt 64 (Int.ofNat n)).toNat = n % 18446744073709551616 := by
        intro n
        rw [BitVec.toNat_ofInt]
        simp
        omega
      have h2 : (BitVec.ofInt 64 (Int.ofNat a) ^^^ BitVec.ofInt 64 (Int.ofNat b)).toNat = Nat.xor (Nat.mod a 18446744073709551616) (Nat.mod b 18446744073709551616) := by
        rw [BitVec.toNat_xor, h1, h1]; rfl
      have h3 : Nat.xor (Nat.mod a 18446744073709551616) (Nat.mod b 18446744073709551616) < topOf .u64 := by
        rw [← h2]; exact (BitVec.ofInt 64 (Int.ofNat a) ^^^ BitVec.ofInt 64 (Int.ofNat b)).isLt
      show Sem.pure (Value.int .u64 (IntKind.u64.wrap (Int.ofNat (BitVec.ofInt 64 (Int.ofNat a) ^^^ BitVec.ofInt 64 (Int.ofNat b)).toNat))) = _
      rw [h2, wrap_small h3]
    · have hx : slowN .xor k k a b = some v := by cases k <;> first | exact hx | exact absurd rfl hk
      exact ⟨slowInt_ok hx t, slowInt_scal hx⟩
  | shr =>
    have h : (bif Nat.ble b (bitsOf k) then some (Value.int k (.ofNat (Nat.shiftRight a b))) else slowN .shr k k' a b) = some v := h
    cases hc : Nat.ble b (bitsOf k) with
    | false => rw [hc, cond_false] at h; exact ⟨slowInt_ok h t, slowInt_scal h⟩
    | true =>
      rw [hc, cond_true] at h
      cases h
      have h1 : b ≤ k.bits := by have := Nat.le_of_ble_eq_true hc; cases k <;> exact this
      refine ⟨?_, rfl⟩
      have h2 : (Int.ofNat a).fdiv (2 ^ b) = Int.ofNat (Nat.shiftRight a b) := by
        have h3 : Nat.shiftRight a b = a / 2 ^ b := Nat.shiftRight_eq_div_pow a b
        rw [h3, show ((2 : Int) ^ b) = ((2 ^ b : Nat) : Int) by simp, Int.fdiv_eq_ediv_of_nonneg _ (Int.natCast_nonneg _)]
        exact (Int.natCast_ediv a (2 ^ b)).symm
      have h4 : min (Int.ofNat b).toNat k.bits = b := by simp; omega
      have h5 : ¬ (Int.ofNat b < 0) := by simp
      simp only [binOp, Op.shift, h5, if_false, h4, h2]
      rfl

end Go.Ev
namespace Go.Ev
variable {P : Program}

theorem cmpSign_ok {op : BinOp} {k k' : IntKind} {a b : Int} {neg r : Bool} {v : Value} (hs : cmpSign op neg = some r) (hab : if neg then a < b else b < a) (h : (bif eqK k k' then some (Value.bool r) else none) = some v) (t : TypeId) :
    binOp op t (.int k a) (.int k' b) = .pure v ∧ scal v = true := by
  cases hk : eqK k k' with
  | false => rw [hk] at h; cases h
  | true =>
    rw [hk] at h
    cases h
    have := eqK_eq hk
    subst this
    refine ⟨?_, rfl⟩
    have hne : a ≠ b := by cases neg <;> simp at hab <;> omega
    cases neg <;> simp only [if_true, Bool.false_eq_true, if_false] at hab <;> cases op <;> simp only [cmpSign, Bool.not_true, Bool.not_false, Option.some.injEq, reduceCtorEq] at hs <;> subst hs <;> simp only [binOp, ne_eq, not_true_eq_false, if_false, Op.intCmp]
    all_goals
      show Sem.pure _ = Sem.pure _
      congr 2
      first
        | (simp; omega)
        | (simp; done)
        | (rw [beq_eq_false_iff_ne]; exact hne)
        | (simp [hne]; done)

theorem evInt_ok {op : BinOp} {k k' : IntKind} {a b : Int} {v : Value} (h : evInt op k a k' b = some v) (t : TypeId) :
    binOp op t (.int k a) (.int k' b) = .pure v ∧ scal v = true := by
  unfold evInt at h
  split at h
  · exact natOp_ok h t
  · rename_i a b
    have hlt : Int.negSucc a < Int.ofNat b := by
      have h1 := Int.negSucc_lt_zero a
      have h2 : (0 : Int) ≤ Int.ofNat b := Int.natCast_nonneg b
      omega
    split at h
    · rename_i r hr
      exact cmpSign_ok (neg := true) hr hlt h t
    · exact ⟨slowInt_ok h t, slowInt_scal h⟩
  · rename_i a b
    have hlt : Int.negSucc b < Int.ofNat a := by
      have h1 := Int.negSucc_lt_zero b
      have h2 : (0 : Int) ≤ Int.ofNat a := Int.natCast_nonneg a
      omega
    split at h
    · rename_i r hr
      exact cmpSign_ok (neg := false) hr hlt h t
    · exact ⟨slowInt_ok h t, slowInt_scal h⟩
  · exact ⟨slowInt_ok h t, slowInt_scal h⟩

theorem wrapI_eq (k : IntKind) (n : Int) : wrapI k n = k.wrap n := by
  unfold wrapI
  split
  · rename_i m
    cases h : Nat.blt m (topOf k) with
    | true => rw [cond_true, wrap_small (by rwa [Nat.blt_eq] at h)]
    | false => rfl
  · rfl

section
variable {call : CallF} {fr : Fr} {h h' : Hp} {e : Env} {w : World} {a : Act} {v : Value} {o : Oper}

theorem strOf_ints : ∀ {vs : List Value} {b : List UInt8}, strOf vs = some b → ∃ ns : List Int, vs = ns.map (Value.int .u8) ∧ b = ns.map fun n => UInt8.ofNat n.toNat
  | [], b, h => by cases h; exact ⟨[], rfl, rfl⟩
  | v :: vs, b, h => by
    unfold strOf at h
    split at h
    · rename_i heq; cases heq
    · rename_i n us heq
      cases heq
      split at h
      · cases h
      · rename_i c hc
        cases h
        obtain ⟨ns, rfl, rfl⟩ := strOf_ints hc
        exact ⟨n :: ns, rfl, rfl⟩
    · cases h
theorem does_convert {s d : TypeId} {x : Operand} (hop : o.op = .convert s d x) (r : Rel P h e w) (hx : LK h.next e fr a x)
    (ho : oConvert s d x P call fr h = some (v, h')) : Does P (execOp a.eval o) h e w v h' := by
  unfold oConvert at ho
  split at ho
  · rename_i ds k k' n hs hd hb
    cases ho
    have hiv := (hx _ hb).int_inv
    refine Does.still r (v' := .int k (wrapI k n)) ?_ RV.int
    simp only [execOp, hop]
    refine run_v ?_
    simp [convert, Sem.run_bind, Sem.run_pure, und hs, und hd, hiv, Conv.intToInt, wrapI_eq]
  · rename_i b hs hd hb
    cases ho
    have hiv : a.eval x = .string b := by have := (hx _ hb).eq; simpa [conc] using this
    refine Does.still r (v' := .string b) ?_ RV.string
    simp only [execOp, hop]
    refine run_v ?_
    simp [convert, Sem.run_bind, Sem.run_pure, und hs, und hd, hiv]
  · rename_i el ad l c hs hd hb
    obtain ⟨_, hiv⟩ := (hx _ hb).slice_inv
    split at ho
    · rename_i he _
      cases ho
      refine Does.still r (v' := .string ⟨#[]⟩) ?_ RV.string
      simp only [execOp, hop]
      refine run_v ?_
      rw [hiv]
      exact run_convert_bytes_nil w s el hs he _ _ d hd
    · rename_i b he _
      split at ho
      · cases ho
      · rename_i vs hrd
        split at ho
        · cases ho
        · rename_i bs hbs
          cases ho
          obtain ⟨l', hrc, hrun⟩ := loadCells_run r hrd
          obtain ⟨ns, rfl, rfl⟩ := strOf_ints hbs
          have hl : l' = ns.map (Value.int .u8) := by
            rw [hrc.rl.2]
            simp [conc]
          subst hl
          refine Does.still r (v' := .string ⟨⟨ns.map fun n => UInt8.ofNat n.toNat⟩⟩) ?_ RV.string
          simp only [execOp, hop]
          refine run_v ?_
          rw [hiv]
          show (convert s d (.slice (some (cA e b)) l (cCap e (some b) c))).run P w = _
          rw [run_convert_bytes_string w s d el _ _ _ hs he hd, run_bytesToString w _ _ _ ns hrun, foldl_push_bytes]
          simp [ByteArray.empty, ByteArray.emptyWithCapacity]
          rfl
    · cases ho
  · cases ho

theorem does_nilCheck {x : Operand} (hop : o.op = .nilCheck x) (r : Rel P h e w) (hx : LK h.next e fr a x)
    (ho : oNilCheck x P call fr h = some (v, h')) : Does P (execOp a.eval o) h e w v h' := by
  unfold oNilCheck at ho
  split at ho
  · rename_i ad hb
    cases ho
    have hk := hx _ hb
    refine Does.still r (v' := a.eval x) ?_ hk
    have hcv := hk.eq
    simp only [conc, Option.map_some] at hcv
    simp [execOp, hop, hcv, Sem.run_pure]
  · rename_i f p q hb
    cases ho
    have hk := hx _ hb
    refine Does.still r (v' := a.eval x) ?_ hk
    have hcv := hk.eq
    simp only [conc, cFn] at hcv
    simp [execOp, hop, hcv, Sem.run_pure]
  · rename_i f p q hb
    cases ho
    have hk := hx _ hb
    refine Does.still r (v' := a.eval x) ?_ hk
    have hcv := hk.eq
    simp only [conc, cFn] at hcv
    simp [execOp, hop, hcv, Sem.run_pure]
  · rename_i t u hb
    cases ho
    have hk := hx _ hb
    refine Does.still r (v' := a.eval x) ?_ hk
    have hcv := hk.eq
    simp only [conc] at hcv
    simp [execOp, hop, hcv, Sem.run_pure]
  · cases ho

end

end Go.Ev
namespace Go.Ev
variable {P : Program}
section
variable {call : CallF} {fr : Fr} {h h' : Hp} {e : Env} {w : World} {a : Act} {v : Value} {o : Oper}

theorem part_agg {n t off sz : Nat} {l : List Value} {c : Array Value} (hs : szOf P t = some sz) (ha : isAggT P t = some true) (hc : RC n e l c.toList) :
    ∃ v', (part t c off).run P w = .ok v' w ∧ RV n e (.agg ⟨(l.drop off).take sz⟩) v' := by
  refine ⟨.agg (c.extract off (off + sz)), ?_, RV.agg ?_⟩
  · simp [part, Sem.run_bind, isAggT_run ha, szOf_run hs, Sem.run_pure]
  · have : (c.extract off (off + sz)).toList = (c.toList.drop off).take sz := by simp
    rw [this]
    exact (hc.drop off).take sz
theorem part_cell {n t off : Nat} {l : List Value} {c : Array Value} {v : Value} (ha : isAggT P t = some false) (hc : RC n e l c.toList) (hl : l[off]? = some v) :
    ∃ v', (part t c off).run P w = .ok v' w ∧ RV n e v v' := by
  obtain ⟨v', h1, h2⟩ := hc.rl.get hl
  rw [Array.getElem?_toList] at h1
  refine ⟨v', ?_, h2⟩
  simp [part, Sem.run_bind, isAggT_run ha, Sem.run_pure, h1]

theorem does_field {t : TypeId} {x : Operand} {i : Nat} (hop : o.op = .field t x i) (r : Rel P h e w) (hx : LK h.next e fr a x)
    (ho : oField t x i P call fr h = some (v, h')) : Does P (execOp a.eval o) h e w v h' := by
  unfold oField at ho
  split at ho
  · rename_i fs cs hu hb
    obtain ⟨c, hcv, hrc⟩ := (hx _ hb).agg_inv
    split at ho
    · cases ho
    · rename_i f hf
      have hf' : fs[i]? = some f := by rw [← Array.getElem?_toList]; exact hf
      have key : ∀ {u v'}, (part f.type c f.offset).run P w = .ok v' w → RV h.next e u v' → Does P (execOp a.eval o) h e w u h := by
        intro u v' hp hrv
        refine Does.still r (v' := v') ?_ hrv
        simp only [execOp, hop]
        refine run_v ?_
        simp [Instr.field, Sem.run_bind, Sem.run_pure, und hu, hf', hcv, asAgg, hp]
      split at ho
      · rename_i sz hs ha
        cases ho
        obtain ⟨v', hp, hrv⟩ := part_agg (w := w) (off := f.offset) hs ha hrc
        exact key hp hrv
      · rename_i hs ha
        split at ho
        · cases ho
        · rename_i u hu'
          cases ho
          obtain ⟨v', hp, hrv⟩ := part_cell (w := w) ha hrc hu'
          exact key hp hrv
      · cases ho
  · cases ho

theorem does_index {t : TypeId} {x i : Operand} (hop : o.op = .index t x i) (r : Rel P h e w) (hx : LK h.next e fr a x) (hi : LK h.next e fr a i)
    (ho : oIndex t x i P call fr h = some (v, h')) : Does P (execOp a.eval o) h e w v h' := by
  unfold oIndex at ho
  split at ho
  · rename_i s k n hu hb hn
    have hiv := (hi _ hn).int_inv
    have hcv := (hx _ hb).eq
    simp only [conc] at hcv
    split at ho
    · cases ho
    · rename_i b hb'
      cases ho
      refine Does.still r (v' := .int .u8 (b.toNat : Int)) ?_ RV.int
      simp only [execOp, hop]
      refine run_v ?_
      have hg : s[n]? = some b := by
        rw [Array.getElem?_toList] at hb'
        obtain ⟨hlt, hv⟩ := Array.getElem?_eq_some_iff.1 hb'
        have hlt' : n < s.size := hlt
        rw [getElem?_pos s n hlt']
        exact congrArg some hv
      simp [Instr.index, asIntOf, Sem.run_bind, Sem.run_pure, und hu, hcv, hiv, hg]
  · rename_i len el cs k n hu hb hn
    have hiv := (hi _ hn).int_inv
    obtain ⟨c, hcv, hrc⟩ := (hx _ hb).agg_inv
    have key : ∀ {sz u v'}, szOf P el = some sz → n < len → (part el c (n * sz)).run P w = .ok v' w → RV h.next e u v' → Does P (execOp a.eval o) h e w u h := by
      intro sz u v' hs hnl hp hrv
      refine Does.still r (v' := v') ?_ hrv
      simp only [execOp, hop]
      refine run_v ?_
      simp [Instr.index, asIntOf, Sem.run_bind, Sem.run_pure, und hu, hcv, hiv, hnl, szOf_run hs, hp]
    split at ho
    · rename_i sz hs ha
      cases hc : Nat.blt n len with
      | false => rw [hc] at ho; cases ho
      | true =>
        rw [hc] at ho
        cases ho
        obtain ⟨v', hp, hrv⟩ := part_agg (w := w) (off := n * sz) hs ha hrc
        exact key hs (by rwa [Nat.blt_eq] at hc) hp hrv
    · rename_i sz hs ha
      cases hc : Nat.blt n len with
      | false => rw [hc] at ho; cases ho
      | true =>
        rw [hc, cond_true] at ho
        split at ho
        · cases ho
        · rename_i u hu'
          cases ho
          obtain ⟨v', hp, hrv⟩ := part_cell (w := w) (off := n * sz) ha hrc hu'
          exact key hs (by rwa [Nat.blt_eq] at hc) hp hrv
    · cases ho
  · cases ho

end
end Go.Ev
namespace Go.Ev
variable {P : Program}

theorem repeatL_length (z : List Value) : ∀ n, (repeatL z n).length = n * z.length
  | 0 => by simp [repeatL]
  | n + 1 => by simp [repeatL, repeatL_length z n, Nat.succ_mul, Nat.add_comm]
theorem repeatL_get (z : List Value) : ∀ (n i : Nat), i < n * z.length → (repeatL z n)[i]? = z[i % z.length]?
  | 0, i, h => by simp at h
  | n + 1, i, h => by
    rw [Nat.succ_mul] at h
    simp only [repeatL]
    by_cases hi : i < z.length
    · rw [List.getElem?_append_left hi, Nat.mod_eq_of_lt hi]
    · have hi' : z.length ≤ i := by omega
      rw [List.getElem?_append_right hi', repeatL_get z n _ (by omega)]
      rw [← Nat.mod_eq_sub_mod hi']
theorem repeatL_mem {z : List Value} {x : Value} : ∀ {n}, x ∈ repeatL z n → x ∈ z
  | 0, h => by simp [repeatL] at h
  | n + 1, h => by
    simp only [repeatL, List.mem_append] at h
    exact h.elim id repeatL_mem
/-- the model's row of zeros -/
theorem range_map_repeat (zs : Array Value) (n m : Nat) (hm : m = n * zs.size) : ((Array.range m).map (fun i => zs[i % zs.size]!)).toList = repeatL zs.toList n := by
  apply List.ext_getElem?
  intro i
  simp only [Array.toList_map, Array.toList_range, List.getElem?_map]
  by_cases hi : i < m
  · rw [List.getElem?_range hi, repeatL_get _ _ _ (by simpa [← hm] using hi)]
    have hz : 0 < zs.size := by
      rcases Nat.eq_zero_or_pos zs.size with h0 | h0
      · rw [h0] at hm; simp at hm; omega
      · exact h0
    have hlt : i % zs.size < zs.size := Nat.mod_lt _ hz
    simp [hlt]
  · rw [List.getElem?_eq_none (by simpa using hi), List.getElem?_eq_none (by rw [repeatL_length, Array.length_toList, ← hm]; omega)]
    rfl

theorem foldl_set (off : Nat) : ∀ (vs : List Value) (k : Nat) (cells : Array Value), off + k + vs.length ≤ cells.size →
    ((vs.zipIdx k).foldl (fun (cs : Array Value) (cj : Value × Nat) => cs.setIfInBounds (off + cj.2) cj.1) cells).toList = cells.toList.take (off + k) ++ (vs ++ cells.toList.drop (off + k + vs.length)) := by
  intro vs
  induction vs with
  | nil => intro k cells _; simp
  | cons v vs ih =>
    intro k cells hle
    simp only [List.length_cons] at hle
    simp only [List.zipIdx_cons, List.foldl_cons]
    rw [ih (k + 1) _ (by simp; omega)]
    have hlt : off + k < cells.toList.length := by simp; omega
    have e1 : off + (k + 1) = off + k + 1 := by omega
    rw [e1, Array.toList_setIfInBounds, List.take_succ_eq_append_getElem (by simpa using hlt), List.take_set_of_le (by omega), List.getElem_set_self, List.drop_set_of_lt (by omega)]
    simp [Nat.add_assoc, Nat.add_comm 1]
theorem fill_set (off : Nat) (v cells : Array Value) (hle : off + v.size ≤ cells.size) :
    (v.zipIdx.foldl (fun cs (c, j) => cs.setIfInBounds (off + j) c) cells).toList = splice cells.toList off v.toList := by
  rw [splice_eq _ _ _ (by simpa using hle), ← Array.foldl_toList]
  have := foldl_set off v.toList 0 cells (by simpa using hle)
  simpa using this

/-- parts -/
inductive RP (n : Nat) (e : Env) : List (Nat × Value) → List (Nat × Value) → Prop
  | nil : RP n e [] []
  | cons {x y : Nat × Value} {l l' : List (Nat × Value)} (h : y.1 = x.1 ∧ RV n e x.2 y.2) (k : RP n e l l') : RP n e (x :: l) (y :: l')

theorem lookParts_ok {n : Nat} {e : Env} {fr : Fr} {a : Act} : ∀ {l : List (Nat × Operand)} {vs : List (Nat × Value)}, lookParts fr l = some vs → (∀ x ∈ l, LK n e fr a x.2) →
    RP n e vs (l.map fun x => (x.1, a.eval x.2))
  | [], vs, h, _ => by simp [lookParts] at h; subst h; exact .nil
  | x :: l, vs, h, hk => by
    obtain ⟨i, x⟩ := x
    simp only [lookParts] at h
    split at h
    · cases h
    · rename_i u hu
      split at h
      · cases h
      · rename_i us hus
        cases h
        exact .cons ⟨rfl, hk (i, x) (by simp) _ hu⟩ (lookParts_ok hus fun y hy => hk y (by simp [hy]))

theorem fillL_ok {n : Nat} {e : Env} {place : Nat → Option (Nat × Nat)} : ∀ {ps ps' : List (Nat × Value)}, RP n e ps ps' → ∀ {cells cs : List Value} {c : Array Value},
    fillL place cells ps = some cs → RC n e cells c.toList → ∃ c', Instr.fill place c ps' = some c' ∧ RC n e cs c'.toList
  | _, _, .nil, cells, cs, c, h, hc => by simp [fillL] at h; subst h; exact ⟨c, rfl, hc⟩
  | (i, v) :: ps, (i', v') :: ps', .cons hv hp, cells, cs, c, h, hc => by
    obtain ⟨hi, hv⟩ := hv
    simp only at hi hv
    subst hi
    simp only [fillL] at h
    split at h
    · cases h
    · rename_i off size hpl
      have hnt : ∀ vs, v ≠ .tuple vs := by rintro vs rfl; cases h
      have h : (bif Nat.beq v.cells.toList.length size && Nat.ble (Nat.add off size) cells.length then fillL place (splice cells off v.cells.toList) ps else none) = some cs := by
        cases v <;> first | exact h | exact absurd rfl (hnt _)
      cases hb : (Nat.beq v.cells.toList.length size && Nat.ble (Nat.add off size) cells.length) with
      | false => rw [hb] at h; cases h
      | true =>
        rw [hb, cond_true] at h
        rw [Bool.and_eq_true] at hb
        have h1 : v.cells.toList.length = size := Nat.eq_of_beq_eq_true hb.1
        have h2 : off + size ≤ cells.length := Nat.le_of_ble_eq_true hb.2
        have hvc := hv.cells hnt
        have hlen : v'.cells.size = size := by rw [← Array.length_toList, hvc.rl.length, h1]
        have hcl : c.size = cells.length := by rw [← Array.length_toList, hc.rl.length]
        have hset : (v'.cells.zipIdx.foldl (fun cs (c, j) => cs.setIfInBounds (off + j) c) c).toList = splice c.toList off v'.cells.toList := fill_set off _ _ (by omega)
        obtain ⟨c', hf, hr⟩ := fillL_ok hp (c := v'.cells.zipIdx.foldl (fun cs (c, j) => cs.setIfInBounds (off + j) c) c) h (by
          rw [hset, splice_eq v.cells.toList off cells (by omega), splice_eq v'.cells.toList off c.toList (by rw [Array.length_toList, Array.length_toList]; omega)]
          have : v'.cells.toList.length = v.cells.toList.length := hvc.rl.length
          rw [this]
          exact (hc.take _).append (hvc.append (hc.drop _)))
        refine ⟨c', ?_, hr⟩
        have hcond : ¬ ((decide (v'.cells.size ≠ size) || decide (off + v'.cells.size > c.size)) = true) := by
          rw [Bool.or_eq_true, decide_eq_true_eq, decide_eq_true_eq]; omega
        simp only [Instr.fill, hpl]
        rw [if_neg hcond]
        exact hf

section
variable {call : CallF} {fr : Fr} {h h' : Hp} {e : Env} {w : World} {a : Act} {v : Value} {o : Oper}

theorem bytesOf_inv {t b : Nat} (h : bytesOf P t = some b) : ∃ i, P.info? t = some i ∧ i.bytes = b := by
  unfold bytesOf at h
  split at h
  · cases h
  · rename_i i hi
    cases h
    exact ⟨i, hi, rfl⟩
theorem zeroL_i64 {n : Nat} (h : n ≤ 1048576) : IntKind.i64.wrap (Int.ofNat n) = (n : Int) := wrap_small (k := .i64) (by simp [topOf]; omega)

theorem does_makeSlice {t : TypeId} {x y : Operand} (hop : o.op = .makeSlice t x y) (r : Rel P h e w) (hx : LK h.next e fr a x) (hy : LK h.next e fr a y)
    (ho : oMakeSlice t x y P call fr h = some (v, h')) : Does P (execOp a.eval o) h e w v h' := by
  unfold oMakeSlice at ho
  split at ho
  · rename_i el l c hu hl hc
    have hlv := (hx _ hl).int_inv
    have hcv := (hy _ hc).int_inv
    split at ho
    · rename_i sz z b hs hz hb
      cases hk : (Nat.ble l c && Nat.ble c 1048576 && Nat.beq z.length sz && Nat.ble (Nat.mul b c) 281474976710656) with
      | false => rw [hk] at ho; cases ho
      | true =>
        rw [hk] at ho
        cases ho
        simp only [Bool.and_eq_true] at hk
        obtain ⟨⟨⟨h1, h2⟩, h3⟩, h4⟩ := hk
        have h1 := Nat.le_of_ble_eq_true h1
        have h2 := Nat.le_of_ble_eq_true h2
        have h3 := Nat.eq_of_beq_eq_true h3
        have h4 : b * c ≤ 281474976710656 := Nat.le_of_ble_eq_true h4
        obtain ⟨zv, hz1, hz2, hz3⟩ := zeroL_run hz w
        have hzs : zv.cells.size = sz := by rw [← Array.length_toList, hz2, h3]
        have hcells : ((Array.range (c * sz)).map (fun i => zv.cells[i % zv.cells.size]!)).toList = repeatL z c := by
          rw [range_map_repeat _ c _ (by rw [hzs]), hz2]
        obtain ⟨e', w', h5, h6, h7⟩ := newRow_ok r el (c := repeatL z c) (cs := (Array.range (c * sz)).map (fun i => zv.cells[i % zv.cells.size]!)) (by
          rw [hcells]; exact RC.plain (fun x hx => hz3 x (repeatL_mem hx)) _ _)
        refine ⟨e', w', .slice (some ⟨e'.phi h.next, 0, none⟩) l c, .inl ?_, h6, h7, ⟨by simp [Ev.under], ?_⟩⟩
        · simp only [execOp, hop]
          refine run_v ?_
          obtain ⟨inf, hb1, hb2⟩ := bytesOf_inv hb
          have hb' : (typeInfo el).run P w = .ok inf w := by simp [typeInfo, program, Sem.run_bind, Sem.run, hb1]
          have hbc : (b : Int) * (c : Int) ≤ 2 ^ 48 := by
            rw [← Int.natCast_mul]
            have := Int.ofNat_le.2 h4
            have e48 : (2 : Int) ^ 48 = ((281474976710656 : Nat) : Int) := by simp
            rw [e48]; exact this
          have hroom : (askRoom (c * b)).run P w = .ok () w := by
            unfold askRoom
            split <;> rfl
          have g1 : ((decide ((c : Int) < 0) || decide ((b : Int) * (c : Int) > 2 ^ 48)) || decide ((l : Int) < 0) || decide ((l : Int) > (c : Int))) = false := by
            simp only [Bool.or_eq_false_iff, decide_eq_false_iff_not]
            exact ⟨⟨⟨by omega, Int.not_lt.2 hbc⟩, by omega⟩, by omega⟩
          simp only [Instr.makeSlice, Sem.run_bind, und hu, Result.andThen_ok, asInt, asIntOf, hlv, hcv, Sem.run_pure, hb', hb2, zeroL_i64 (Nat.le_trans h1 h2), zeroL_i64 h2]
          simp only [g1, Bool.false_eq_true, if_false, Int.toNat_natCast, hroom, Result.andThen_ok, szOf_run hs]
          by_cases h0 : c * sz = 0
          · have h5' := h5
            rw [h0] at h5'
            have hr0 : ∀ f : Nat → Value, (Array.range 0).map f = #[] := fun f => by simp
            rw [hr0] at h5'
            simp [szOf_run hs, h0, hr0, Sem.run_bind, Sem.run_pure, h5']
          · simp [szOf_run hs, h0, Sem.run_bind, hz1, Sem.run_pure, h5]
        · simp only [conc, Option.map_some, cA_none (a := ⟨h.next, 0, none⟩) rfl, cCap]
          rw [if_neg (by simp [OPEN]; omega)]
    · cases ho
  · cases ho

end
end Go.Ev
namespace Go.Ev
variable {P : Program}

instance : LawfulMonad Sem := LawfulMonad.mk'
  (id_map := by
    intro α x
    show Sem.bind x (fun a => Sem.pure (id a)) = x
    induction x with
    | pure a => rfl
    | halt h => rfl
    | frozen a k ih => simp only [Sem.bind]; congr 1; funext b; exact ih b
    | _ => simp_all [Sem.bind])
  (pure_bind := by intro α β x f; rfl)
  (bind_assoc := by
    intro α β γ x f g
    show Sem.bind (Sem.bind x f) g = Sem.bind x (fun a => Sem.bind (f a) g)
    induction x with
    | pure a => rfl
    | halt h => rfl
    | frozen a k ih => simp only [Sem.bind]; congr 1; funext b; exact ih b
    | _ => simp_all [Sem.bind])

theorem run_mapM {α β : Type} {f : α → Sem β} {w : World} : ∀ {l : List α} {r : List β}, r.length = l.length → (∀ (i : Nat) (x : α) (y : β), l[i]? = some x → r[i]? = some y → (f x).run P w = .ok y w) →
    (l.mapM f).run P w = .ok r w
  | [], r, hl, _ => by
    have : r = [] := List.length_eq_zero_iff.1 hl
    subst this; rfl
  | x :: l, [], hl, _ => by simp at hl
  | x :: l, y :: r, hl, h => by
    rw [List.mapM_cons]
    have h0 := h 0 x y rfl rfl
    have ih := run_mapM (l := l) (r := r) (by simpa using hl) (fun i x y hx hy => h (i + 1) x y (by simpa using hx) (by simpa using hy))
    simp only [Sem.run_bind, h0, Result.andThen_ok, ih, Sem.run_pure]

theorem placesOf_ok : ∀ {fs : List Field} {pl : List (Nat × Nat)}, placesOf P fs = some pl → pl.length = fs.length ∧ ∀ (i : Nat) (f : Field) (p : Nat × Nat), fs[i]? = some f → pl[i]? = some p → p.1 = f.offset ∧ szOf P f.type = some p.2
  | [], pl, h => by simp [placesOf] at h; subst h; simp
  | f :: fs, pl, h => by
    simp only [placesOf] at h
    split at h
    · cases h
    · rename_i n hn
      split at h
      · cases h
      · rename_i ps hps
        cases h
        obtain ⟨h1, h2⟩ := placesOf_ok hps
        refine ⟨by simp [h1], fun i g p hg hp => ?_⟩
        cases i with
        | zero => simp at hg hp; subst hg; subst hp; exact ⟨rfl, hn⟩
        | succ i => exact h2 i g p (by simpa using hg) (by simpa using hp)

section
variable {call : CallF} {fr : Fr} {h h' : Hp} {e : Env} {w : World} {a : Act} {v : Value} {o : Oper}

theorem map_parts (parts : Array (Nat × Operand)) : (parts.map fun (i, x) => (i, a.eval x)).toList = parts.toList.map fun x => (x.1, a.eval x.2) := by
  simp

theorem does_build {t : TypeId} {parts : Array (Nat × Operand)} (hop : o.op = .build t parts) (r : Rel P h e w) (hx : ∀ x ∈ parts.toList, LK h.next e fr a x.2)
    (ho : oBuild t parts P call fr h = some (v, h')) : Does P (execOp a.eval o) h e w v h' := by
  unfold oBuild at ho
  split at ho
  · rename_i fs z ps hu hz hp
    have hps := lookParts_ok hp hx
    rw [← map_parts] at hps
    split at ho
    · cases ho
    · rename_i pl hpl
      obtain ⟨hp1, hp2⟩ := placesOf_ok hpl
      split at ho
      · cases ho
      · rename_i cs hcs
        cases ho
        obtain ⟨zv, hz1, hz2, hz3⟩ := zeroL_run hz w
        obtain ⟨c', hf, hrc⟩ := fillL_ok (n := h.next) (e := e) hps (c := zv.cells) hcs (by rw [hz2]; exact RC.plain hz3 _ _)
        refine Does.still r (v' := .agg c') ?_ (RV.agg hrc)
        simp only [execOp, hop]
        refine run_v ?_
        have hm : (fs.mapM fun f => do pure (f.offset, ← sizeOf f.type) : Sem (Array (Nat × Nat))).run P w = .ok pl.toArray w := by
          rw [Array.mapM_eq_mapM_toList, ← bind_pure_comp]
          simp only [Sem.run_bind]
          rw [run_mapM (r := pl) (by rw [hp1]) (fun i f p hf hp => by
            obtain ⟨e1, e2⟩ := hp2 i f p hf hp
            simp only [Sem.run_bind, szOf_run e2, Result.andThen_ok, Sem.run_pure, ← e1])]
          rfl
        have hplace : (fun i : Nat => pl[i]?) = (fun i : Nat => pl.toArray[i]?) := by funext i; simp
        rw [hplace] at hf
        simp only [Instr.build, Sem.run_bind, hz1, Result.andThen_ok, und hu, hm, hf, Sem.run_pure]
  · rename_i n el z ps hu hz hp
    have hps := lookParts_ok hp hx
    rw [← map_parts] at hps
    split at ho
    · cases ho
    · rename_i sz hs
      split at ho
      · cases ho
      · rename_i cs hcs
        cases ho
        obtain ⟨zv, hz1, hz2, hz3⟩ := zeroL_run hz w
        obtain ⟨c', hf, hrc⟩ := fillL_ok (n := h.next) (e := e) hps (c := zv.cells) hcs (by rw [hz2]; exact RC.plain hz3 _ _)
        refine Does.still r (v' := .agg c') ?_ (RV.agg hrc)
        simp only [execOp, hop]
        refine run_v ?_
        have hf' : Instr.fill (fun i => some (i * sz, sz)) zv.cells (Array.map (fun x => (x.fst, a.eval x.snd)) parts).toList = some c' := hf
        simp only [Instr.build, Sem.run_bind, hz1, Result.andThen_ok, und hu, szOf_run hs, hf', Sem.run_pure]
  · cases ho

theorem does_buildSlice {t : TypeId} {len : Nat} {parts : Array (Nat × Operand)} (hop : o.op = .buildSlice t len parts) (r : Rel P h e w) (hx : ∀ x ∈ parts.toList, LK h.next e fr a x.2)
    (ho : oBuildSlice t len parts P call fr h = some (v, h')) : Does P (execOp a.eval o) h e w v h' := by
  unfold oBuildSlice at ho
  split at ho
  · rename_i el ps hu hp
    have hps := lookParts_ok hp hx
    rw [← map_parts] at hps
    split at ho
    · rename_i sz z hs hz
      cases hk : (Nat.ble (Nat.mul len sz) 16777216 && Nat.beq z.length sz && Nat.ble len 16777216) with
      | false => rw [hk] at ho; cases ho
      | true =>
        rw [hk, cond_true] at ho
        simp only [Bool.and_eq_true] at hk
        have h1 : len * sz ≤ 16777216 := Nat.le_of_ble_eq_true hk.1.1
        have h3 := Nat.eq_of_beq_eq_true hk.1.2
        have h4 := Nat.le_of_ble_eq_true hk.2
        split at ho
        · cases ho
        · rename_i cs hcs
          cases ho
          obtain ⟨zv, hz1, hz2, hz3⟩ := zeroL_run hz w
          have hzs : zv.cells.size = sz := by rw [← Array.length_toList, hz2, h3]
          have hcells : ((Array.range (len * sz)).map (fun i => zv.cells[i % zv.cells.size]!)).toList = repeatL z len := by
            rw [range_map_repeat _ len _ (by rw [hzs]), hz2]
          obtain ⟨c', hf, hrc⟩ := fillL_ok (n := h.next) (e := e) hps (c := (Array.range (len * sz)).map (fun i => zv.cells[i % zv.cells.size]!)) hcs (by
            rw [hcells]; exact RC.plain (fun x hx => hz3 x (repeatL_mem hx)) _ _)
          obtain ⟨e', w', h5, h6, h7⟩ := newRow_ok r el (c := cs) (cs := c') hrc
          refine ⟨e', w', .slice (some ⟨e'.phi h.next, 0, none⟩) len len, .inl ?_, h6, h7, ⟨by simp [Ev.under], ?_⟩⟩
          · simp only [execOp, hop]
            refine run_v ?_
            have hnl : ¬ (len * sz > 2 ^ 24) := by omega
            have hf' : Instr.fill (fun i => some (i * sz, sz)) ((Array.range (len * sz)).map (fun i => zv.cells[i % zv.cells.size]!)) (Array.map (fun x => (x.fst, a.eval x.snd)) parts).toList = some c' := hf
            simp only [Instr.buildSlice, Sem.run_bind, und hu, Result.andThen_ok, szOf_run hs, hnl, if_false, Sem.run_pure]
            by_cases h0 : len * sz = 0
            · have hr0 : ∀ f : Nat → Value, (Array.range 0).map f = #[] := fun f => by simp
              rw [h0, hr0] at hf'
              simp only [h0, if_true, hr0, Sem.run_bind, Sem.run_pure, Result.andThen_ok, hf', h5]
            · simp only [h0, if_false, Sem.run_bind, Sem.run_pure, Result.andThen_ok, hz1, hf', h5]
          · simp only [conc, Option.map_some, cA_none (a := ⟨h.next, 0, none⟩) rfl, cCap]
            rw [if_neg (by simp [OPEN]; omega)]
    · cases ho
  · cases ho

end
end Go.Ev
namespace Go.Ev
variable {P : Program}
section
variable {call : CallF} {fr : Fr} {h h' : Hp} {e : Env} {w : World} {a : Act} {v : Value} {o : Oper}

def LKo (n : Nat) (e : Env) (fr : Fr) (a : Act) (x : Option Operand) : Prop := ∀ y, x = some y → LK n e fr a y

theorem bound_ok {n : Nat} {x : Option Operand} {d m : Nat} (h : bound fr x d = some m) (hx : LKo n e fr a x) :
    (x = none ∧ m = d) ∨ ∃ y k, x = some y ∧ a.eval y = .int k (m : Int) := by
  unfold bound at h
  split at h
  · cases h; exact .inl ⟨rfl, rfl⟩
  · rename_i y
    split at h
    · rename_i k m' hl
      cases h
      exact .inr ⟨y, k, rfl, (hx y rfl _ hl).int_inv⟩
    · cases h

theorem sliceBound_run {v : Value} {k : IntKind} {m y : Nat} {c : BoundsCode} (hv : v = .int k (m : Int)) (hle : m ≤ y) : (Instr.sliceBound v y c).run P w = .ok m w := by
  subst hv
  have hc : (0 : Int) ≤ (m : Int) ∧ (m : Int) ≤ (y : Int) := ⟨by omega, by omega⟩
  simp only [Instr.sliceBound, asIntOf, Sem.run_bind, Sem.run_pure, Result.andThen_ok, if_pos hc, Int.toNat_natCast]

theorem bounds_run {lo hi mx : Option Operand} {isS : Bool} {len cap l r m : Nat} (hl : (lo = none ∧ l = 0) ∨ ∃ z k, lo = some z ∧ a.eval z = .int k (l : Int))
    (hr : (hi = none ∧ r = len) ∨ ∃ z k, hi = some z ∧ a.eval z = .int k (r : Int)) (hm : (mx = none ∧ m = cap) ∨ ∃ z k, mx = some z ∧ a.eval z = .int k (m : Int))
    (h1 : l ≤ r) (h2 : r ≤ m) (h3 : m ≤ cap) (hh : hi = none → mx = none) :
    (Instr.sliceBounds isS len cap (lo.map a.eval) (hi.map a.eval) (mx.map a.eval)).run P w = .ok (l, r, m) w := by
  unfold Instr.sliceBounds
  rcases hm with ⟨rfl, rfl⟩ | ⟨zm, km, rfl, hzm⟩ <;> rcases hr with ⟨rfl, rfl⟩ | ⟨zr, kr, rfl, hzr⟩ <;> rcases hl with ⟨rfl, rfl⟩ | ⟨zl, kl, rfl, hzl⟩
  case inr.inl.inl | inr.inl.inr => exact absurd (hh rfl) (fun hc => by cases hc)
  all_goals simp only [Option.map_some, Option.map_none, Sem.run_bind, Sem.run_pure, Result.andThen_ok]
  case inl.inl.inr => rw [sliceBound_run hzl h1]; rfl
  case inl.inr.inl => rw [sliceBound_run hzr h2]; rfl
  case inl.inr.inr => rw [sliceBound_run hzr h2]; simp only [Result.andThen_ok]; rw [sliceBound_run hzl h1]; rfl
  case inr.inr.inl => rw [sliceBound_run hzm h3]; simp only [Result.andThen_ok]; rw [sliceBound_run hzr h2]; rfl
  case inr.inr.inr => rw [sliceBound_run hzm h3]; simp only [Result.andThen_ok]; rw [sliceBound_run hzr h2]; simp only [Result.andThen_ok]; rw [sliceBound_run hzl h1]; rfl

theorem addrIf (a : Addr) (m l n : Nat) (h : l = 0 → n = 0) : (bif Nat.beq m l then a else addrAdd a n) = if m = l then a else addrAdd a n := by
  cases hb : Nat.beq m l with
  | true => rw [if_pos (Nat.eq_of_beq_eq_true hb)]; rfl
  | false => rw [if_neg (fun hc => by rw [hc] at hb; simp at hb)]; rfl

theorem evSlice_ok {t : TypeId} {x : Value} {x' : Value} {lo hi mx : Option Operand} (r : Rel P h e w) (hx : RV h.next e x x') (hlo : LKo h.next e fr a lo) (hhi : LKo h.next e fr a hi) (hmx : LKo h.next e fr a mx)
    (ho : evSlice P h fr t x lo hi mx = some v) : ∃ v', (Instr.sliceAt t x' (lo.map a.eval) (hi.map a.eval) (mx.map a.eval)).run P w = .ok v' w ∧ RV h.next e v v' := by
  unfold evSlice at ho
  split at ho
  · -- an array
    rename_i n el ad hu
    obtain ⟨hlt, rfl⟩ := hx.ptr_inv
    split at ho
    · rename_i sz l rr m hs hl hr hm
      cases hk : (Nat.ble l rr && Nat.ble rr m && Nat.ble m n && Nat.ble n 16777216 && ad.spot.isNone && (hi.isSome || mx.isNone)) with
      | false => rw [hk] at ho; cases ho
      | true =>
        rw [hk] at ho
        cases ho
        simp only [Bool.and_eq_true] at hk
        obtain ⟨⟨⟨⟨⟨h1, h2⟩, h3⟩, h4⟩, h5⟩, h6⟩ := hk
        have h1 := Nat.le_of_ble_eq_true h1
        have h2 := Nat.le_of_ble_eq_true h2
        have h3 := Nat.le_of_ble_eq_true h3
        have h4 := Nat.le_of_ble_eq_true h4
        have hb := bounds_run (P := P) (w := w) (a := a) (isS := false) (bound_ok hl hlo) (bound_ok hr hhi) (bound_ok hm hmx) h1 h2 h3 (by
          rintro rfl; simpa using h6)
        refine ⟨.slice (some (if m = l then cA e ad else (cA e ad).add (l * sz))) (rr - l) (m - l), ?_, ⟨?_, ?_⟩⟩
        · simp only [Instr.sliceAt, Instr.sureAddr, Sem.run_bind, und hu, Result.andThen_ok, Sem.run_pure, hb, szOf_run hs]
        · rw [addrIf _ _ _ _ (by rintro rfl; simp)]
          simp only [Ev.under]
          intro y hy
          cases hy
          split
          · exact hlt
          · rw [addrAdd_block]; exact hlt
        · rw [addrIf _ _ _ _ (by rintro rfl; simp)]
          have hcap : ¬ OPEN ≤ Nat.sub m l := by simp [OPEN]; omega
          simp only [conc, Option.map_some, cCap, if_neg hcap]
          split
          · rfl
          · rw [cA_add _ _ _ (isNone_spot h5)]; rfl
    · cases ho
  · -- a string
    rename_i s hu
    have hx' : x' = .string s := by have := hx.eq; simpa [conc] using this
    subst hx'
    split at ho
    · rename_i l rr hl hr
      cases hk : (Nat.ble l rr && Nat.ble rr s.size) with
      | false => rw [hk] at ho; cases ho
      | true =>
        rw [hk] at ho
        cases ho
        simp only [Bool.and_eq_true] at hk
        have h1 := Nat.le_of_ble_eq_true hk.1
        have h2 := Nat.le_of_ble_eq_true hk.2
        have hb := bounds_run (P := P) (w := w) (a := a) (isS := false) (mx := none) (cap := s.size) (m := s.size) (bound_ok hl hlo) (bound_ok hr hhi) (.inl ⟨rfl, rfl⟩) h1 h2 (Nat.le_refl _) (fun _ => rfl)
        simp only [Option.map_none] at hb
        refine ⟨.string (s.extract l rr), ?_, RV.string⟩
        simp only [Instr.sliceAt, Instr.slice, Sem.run_bind, und hu, Result.andThen_ok, Option.map_none, Option.isSome_none, Bool.false_eq_true, if_false, Sem.run_pure, hb]
    · cases ho
  · -- a slice
    rename_i el ad len cap hu
    obtain ⟨hlt, rfl⟩ := hx.slice_inv
    split at ho
    · rename_i sz l rr hs hl hr
      have hrun : ∀ {m : Nat}, ((mx = none ∧ m = cCap e ad cap) ∨ ∃ z k, mx = some z ∧ a.eval z = .int k (m : Int)) → l ≤ rr → rr ≤ m → m ≤ cCap e ad cap → (hi.isSome || mx.isNone) = true →
          (Instr.sliceAt t (.slice (ad.map (cA e)) len (cCap e ad cap)) (lo.map a.eval) (hi.map a.eval) (mx.map a.eval)).run P w =
            .ok (.slice (if m = l then ad.map (cA e) else (ad.map (cA e)).map (·.add (l * sz))) (rr - l) (m - l)) w := by
        intro m hm h1 h2 h3 h6
        have hb := bounds_run (P := P) (w := w) (a := a) (isS := true) (bound_ok hl hlo) (bound_ok hr hhi) hm h1 h2 h3 (by
          rintro rfl; simpa using h6)
        simp only [Instr.sliceAt, Instr.slice, Sem.run_bind, und hu, Result.andThen_ok, hb, szOf_run hs, Sem.run_pure]
      cases hk : (Nat.ble l rr && (hi.isSome || mx.isNone)) with
      | false => rw [hk] at ho; cases ho
      | true =>
        rw [hk, cond_true] at ho
        simp only [Bool.and_eq_true] at hk
        have h1 := Nat.le_of_ble_eq_true hk.1
        cases hop : Nat.ble OPEN cap with
        | true =>
          rw [hop, cond_true] at ho
          have hop := Nat.le_of_ble_eq_true hop
          split at ho
          · rename_i ad'
            split at ho
            · rename_i c el' hsp hg
              cases hk2 : (Nat.beq el' el && Nat.blt 0 sz && Nat.beq ad'.off (Nat.mul (Nat.sub cap OPEN) sz) && Nat.ble (Nat.add ad'.off (Nat.mul rr sz)) c.length && (Nat.blt l rr || Nat.beq l 0)) with
              | false => rw [hk2] at ho; cases ho
              | true =>
                rw [hk2] at ho
                cases ho
                simp only [Bool.and_eq_true] at hk2
                obtain ⟨⟨⟨⟨g1, g2⟩, g3⟩, g4⟩, g5⟩ := hk2
                have g1 := Nat.eq_of_beq_eq_true g1
                rw [Nat.blt_eq] at g2
                have g3 : ad'.off = (cap - OPEN) * sz := Nat.eq_of_beq_eq_true g3
                have g4 : ad'.off + rr * sz ≤ c.length := Nat.le_of_ble_eq_true g4
                subst g1
                obtain ⟨_, hl'⟩ := r.lies _ _ hg
                obtain ⟨cs, q, q', k1, k2, k3, k4⟩ := hl'.cells_inv
                rw [if_pos rfl] at k4
                obtain ⟨s, ks, kk⟩ := k4
                rw [hs] at ks
                cases ks
                have hle : c.length ≤ cs.size := by
                  rw [← Array.length_toList, k2, List.length_append, k3.rl.length]; omega
                have hcap : cCap e (some ad') cap = e.kap ad'.block - (cap - OPEN) := by simp only [cCap, if_pos hop]
                have hbound : (cap - OPEN) + rr ≤ e.kap ad'.block := by
                  have : ((cap - OPEN) + rr) * sz ≤ e.kap ad'.block * sz := by rw [kk, Nat.add_mul, ← g3]; omega
                  exact Nat.le_of_mul_le_mul_right this g2
                refine ⟨_, hrun (m := cCap e (some ad') cap) (.inl ⟨rfl, rfl⟩) h1 (by rw [hcap]; omega) (Nat.le_refl _) hk.2, ⟨?_, ?_⟩⟩
                · simp only [Ev.under]
                  intro y hy
                  cases hy
                  rw [addrAdd_block]; exact hlt _ rfl
                · have hop2 : OPEN ≤ Nat.add cap l := Nat.le_trans hop (Nat.le_add_right _ _)
                  simp only [conc, Option.map_some, cA_add _ _ _ hsp]
                  have hadd : (if cCap e (some ad') cap = l then some (cA e ad') else some ((cA e ad').add (l * sz))) = some ((cA e ad').add (Nat.mul l sz)) := by
                    split
                    · rename_i hml
                      have : l = 0 := by
                        rw [Bool.or_eq_true, Nat.blt_eq] at g5
                        rcases g5 with g5 | g5
                        · rw [hcap] at hml; omega
                        · exact Nat.eq_of_beq_eq_true g5
                      subst this
                      simp [Addr.add]
                    · rfl
                  rw [hadd]
                  have hc2 : cCap e (some (addrAdd ad' (Nat.mul l sz))) (Nat.add cap l) = cCap e (some ad') cap - l := by
                    simp only [cCap, if_pos hop, if_pos hop2, addrAdd_block]
                    show e.kap ad'.block - (cap + l - OPEN) = e.kap ad'.block - (cap - OPEN) - l
                    omega
                  rw [hc2]; rfl
            · cases ho
          · cases ho
        | false =>
          rw [hop, cond_false] at ho
          have hop : ¬ OPEN ≤ cap := fun hc => by
            rw [← Nat.ble_eq, hop] at hc; cases hc
          have hcap : cCap e ad cap = cap := by cases ad <;> simp [cCap, hop]
          split at ho
          · cases ho
          · rename_i m hm
            cases hk2 : (Nat.ble rr m && Nat.ble m cap) with
            | false => rw [hk2] at ho; cases ho
            | true =>
              rw [hk2, cond_true] at ho
              simp only [Bool.and_eq_true] at hk2
              have g1 := Nat.le_of_ble_eq_true hk2.1
              have g2 := Nat.le_of_ble_eq_true hk2.2
              have hR := hrun (m := m) (by rw [hcap]; exact bound_ok hm hmx) h1 g1 (by rw [hcap]; exact g2) hk.2
              have hcm : ¬ OPEN ≤ Nat.sub m l := fun hc => hop (Nat.le_trans hc (Nat.le_trans (Nat.sub_le _ _) g2))
              split at ho
              · cases ho
                exact ⟨_, hR, ⟨by simp [Ev.under], by simp [conc, cCap]⟩⟩
              · rename_i ad'
                cases hsp : ad'.spot.isNone with
                | false => rw [hsp] at ho; cases ho
                | true =>
                  rw [hsp] at ho
                  cases ho
                  refine ⟨_, hR, ⟨?_, ?_⟩⟩
                  · rw [addrIf _ _ _ _ (by rintro rfl; simp)]
                    simp only [Ev.under]
                    intro y hy
                    cases hy
                    split
                    · exact hlt _ rfl
                    · rw [addrAdd_block]; exact hlt _ rfl
                  · rw [addrIf _ _ _ _ (by rintro rfl; simp)]
                    simp only [conc, Option.map_some, cCap, if_neg hcm]
                    split
                    · rfl
                    · rw [cA_add _ _ _ (isNone_spot hsp)]; rfl
    · cases ho
  · cases ho

def Env.gho (e : Env) (b r k g : Nat) : Env := ⟨fun i => if i = b then r else e.phi i, fun i => if i = b then k else e.kap i, fun i => if i = b then g else e.gh i, e.iv⟩
theorem Env.gho_agree (e : Env) (b r k g : Nat) : Agree b e (e.gho b r k g) := fun i hi => by
  have : i ≠ b := by omega
  simp [Env.gho, this]
theorem Rel.ghost (r : Rel P h e w) (p k g : Nat) : Rel P ⟨h.t, h.next + 1, h.low⟩ (e.gho h.next p k g) w ∧ Stp h e w ⟨h.t, h.next + 1, h.low⟩ (e.gho h.next p k g) w := by
  have hag := e.gho_agree h.next p k g
  have hget : ∀ b, Hp.get ⟨h.t, h.next + 1, h.low⟩ b = h.get b := fun _ => rfl
  refine ⟨⟨fun b x hb => ?_, fun b c x y hb hc he => ?_, Nat.le_succ_of_le r.low, r.glob.mono (Nat.le_succ _) hag⟩, ⟨Nat.le_succ _, hag, fun b x hb => .inl ⟨b, x, hb, ?_⟩, fun _ _ _ => rfl, Nat.le_refl _, rfl, rfl, rfl, rfl, fun _ _ => rfl⟩⟩
  · obtain ⟨h1, h2⟩ := r.lies b x hb
    exact ⟨Nat.lt_succ_of_lt h1, h2.mono h1 (Nat.le_succ _) hag rfl⟩
  · rw [hget] at hb hc
    rw [(hag b (r.lies b x hb).1).1, (hag c (r.lies c y hc).1).1] at he
    exact r.inj b c x y hb hc he
  · exact ((hag b (r.lies b x hb).1).1).symm

theorem evGhost_ok {t : TypeId} {x x' : Value} {lo hi mx : Option Operand} (r : Rel P h e w) (hx : RV h.next e x x') (hlo : LKo h.next e fr a lo) (hhi : LKo h.next e fr a hi)
    (ho : evGhost P h fr t x lo hi mx = some (v, h')) : ∃ e' v', (Instr.sliceAt t x' (lo.map a.eval) (hi.map a.eval) (mx.map a.eval)).run P w = .ok v' w ∧ Rel P h' e' w ∧ Stp h e w h' e' w ∧ RV h'.next e' v v' := by
  unfold evGhost at ho
  split at ho
  case h_2 => cases ho
  rename_i el ad len cap hu
  obtain ⟨hlt, rfl⟩ := hx.slice_inv
  split at ho
  case h_2 => cases ho
  rename_i sz l rr hs hl hr
  cases hk : (Nat.beq l rr && Nat.ble OPEN cap) with
  | false => rw [hk] at ho; cases ho
  | true =>
    rw [hk, cond_true] at ho
    rw [Bool.and_eq_true] at hk
    have hlr := Nat.eq_of_beq_eq_true hk.1
    subst hlr
    have hop := Nat.le_of_ble_eq_true hk.2
    split at ho
    case h_2 => cases ho
    rename_i c el' hsp hg
    cases hk2 : (Nat.beq el' el && Nat.blt 0 sz && Nat.beq ad.off (Nat.mul (Nat.sub cap OPEN) sz) && Nat.ble (Nat.add ad.off (Nat.mul l sz)) c.length) with
    | false => rw [hk2] at ho; cases ho
    | true =>
      rw [hk2] at ho
      cases ho
      simp only [Bool.and_eq_true] at hk2
      obtain ⟨⟨⟨g1, g2⟩, g3⟩, g4⟩ := hk2
      have g1 := Nat.eq_of_beq_eq_true g1
      rw [Nat.blt_eq] at g2
      have g3 : ad.off = (cap - OPEN) * sz := Nat.eq_of_beq_eq_true g3
      have g4 : ad.off + l * sz ≤ c.length := Nat.le_of_ble_eq_true g4
      subst g1
      obtain ⟨_, hl'⟩ := r.lies _ _ hg
      obtain ⟨cs, q, q', k1, k2, k3, k4⟩ := hl'.cells_inv
      rw [if_pos rfl] at k4
      obtain ⟨s, ks, kk⟩ := k4
      rw [hs] at ks
      cases ks
      have hle : c.length ≤ cs.size := by
        rw [← Array.length_toList, k2, List.length_append, k3.rl.length]; omega
      have hcap : cCap e (some ad) cap = e.kap ad.block - (cap - OPEN) := by simp only [cCap, if_pos hop]
      have hbound : (cap - OPEN) + l ≤ e.kap ad.block := by
        have : ((cap - OPEN) + l) * sz ≤ e.kap ad.block * sz := by rw [kk, Nat.add_mul, ← g3]; omega
        exact Nat.le_of_mul_le_mul_right this g2
      have hb := bounds_run (P := P) (w := w) (a := a) (isS := true) (mx := none) (cap := cCap e (some ad) cap) (m := cCap e (some ad) cap) (bound_ok hl hlo) (bound_ok hr hhi) (.inl ⟨rfl, rfl⟩) (Nat.le_refl _) (by rw [hcap]; omega) (Nat.le_refl _) (fun _ => rfl)
      simp only [Option.map_none] at hb
      have hrun : (Instr.sliceAt t (.slice ((some ad).map (cA e)) len (cCap e (some ad) cap)) (lo.map a.eval) (hi.map a.eval) ((none : Option Operand).map a.eval)).run P w =
          .ok (.slice (if cCap e (some ad) cap = l then (some ad).map (cA e) else ((some ad).map (cA e)).map (·.add (l * sz))) (l - l) (cCap e (some ad) cap - l)) w := by
        simp only [Instr.sliceAt, Instr.slice, Sem.run_bind, und hu, Result.andThen_ok, Option.map_none, hb, szOf_run hs, Sem.run_pure]
      obtain ⟨h1, h2⟩ := r.ghost (e.phi ad.block) (cCap e (some ad) cap - l) (if cCap e (some ad) cap = l then ad.off else ad.off + l * sz)
      refine ⟨_, _, hrun, h1, h2, ⟨by simp [Ev.under], ?_⟩⟩
      have hsp' : ad.spot = none := hsp
      simp only [conc, Option.map_some, cA_none hsp', cCap, Nat.le_refl, if_true, Nat.sub_self, Nat.sub_zero]
      simp only [cA, Env.gho, if_true, reduceCtorEq, if_false]
      simp only [cCap, if_pos hop]
      split
      · rfl
      · unfold Addr.add
        split
        · rename_i h0; rw [h0]; rfl
        · rfl

theorem does_slice {t : TypeId} {x : Operand} {lo hi mx : Option Operand} (hop : o.op = .slice t x lo hi mx) (r : Rel P h e w) (hx : LK h.next e fr a x)
    (hlo : LKo h.next e fr a lo) (hhi : LKo h.next e fr a hi) (hmx : LKo h.next e fr a mx)
    (ho : oSlice t x lo hi mx P call fr h = some (v, h')) : Does P (execOp a.eval o) h e w v h' := by
  unfold oSlice at ho
  split at ho
  · cases ho
  · rename_i u hu
    split at ho
    · obtain ⟨e', v', h1, h2, h3, h4⟩ := evGhost_ok r (hx _ hu) hlo hhi ho
      refine ⟨e', w, v', .inl ?_, h2, h3, h4⟩
      simp only [execOp, hop]
      exact run_v h1
    · rename_i u' hu'
      cases ho
      obtain ⟨v', h1, h2⟩ := evSlice_ok r (hx _ hu) hlo hhi hmx hu'
      refine Does.still r (v' := v') ?_ h2
      simp only [execOp, hop]
      exact run_v h1

end
end Go.Ev
