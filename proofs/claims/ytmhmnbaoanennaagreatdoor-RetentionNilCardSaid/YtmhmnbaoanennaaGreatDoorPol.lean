/- Contracts: the error of a sampling policy. -/
import Derived.Test.YtmhmnbaoanennaaGreatDoorVisit
namespace Go.Proofs.YtmhmnbaoanennaaGreatDoor
open Go Go.Ev Go.Proofs Go.RowKit
set_option linter.unusedVariables false
set_option linter.unusedSimpArgs false

/-- A rule whose predicate has no arguments. -/
structure RuleD where
  op : Int
  f : ByteArray
  k : ByteArray
  n : Int
  t : ByteArray
  i : Int
  A : Option Addr
  c : Nat
  e : Int
/-- A rule lies at an address. -/
def RowAt (W : World) (p : Addr) (r : RuleD) : Prop :=
  W.cell? p = some (.int .i64 r.op) ∧ W.cell? ⟨p.block, p.off + 1, none⟩ = some (.string r.f) ∧ W.cell? ⟨p.block, p.off + 2, none⟩ = some (.string r.k) ∧ W.cell? ⟨p.block, p.off + 3, none⟩ = some (.int .i64 r.n) ∧
  W.cell? ⟨p.block, p.off + 4, none⟩ = some (.string r.t) ∧ W.cell? ⟨p.block, p.off + 5, none⟩ = some (.int .i64 r.i) ∧ W.cell? ⟨p.block, p.off + 6, none⟩ = some (.slice r.A 0 r.c) ∧ W.cell? ⟨p.block, p.off + 7, none⟩ = some (.int .i64 r.e)
theorem RowAt.below {W W' : World} {p : Addr} {r : RuleD} (h : RowAt W p r) (k : Below W.heap.size W W') : RowAt W' p r := by
  obtain ⟨h0, h1, h2, h3, h4, h5, h6, h7⟩ := h
  have hlt := World.block_lt_of_cell? W _ h0
  exact ⟨(k.cell hlt).trans h0, (k.cell (p := ⟨p.block, p.off + 1, none⟩) hlt).trans h1, (k.cell (p := ⟨p.block, p.off + 2, none⟩) hlt).trans h2, (k.cell (p := ⟨p.block, p.off + 3, none⟩) hlt).trans h3,
    (k.cell (p := ⟨p.block, p.off + 4, none⟩) hlt).trans h4, (k.cell (p := ⟨p.block, p.off + 5, none⟩) hlt).trans h5, (k.cell (p := ⟨p.block, p.off + 6, none⟩) hlt).trans h6, (k.cell (p := ⟨p.block, p.off + 7, none⟩) hlt).trans h7⟩
/-- The rules lie from an address on. -/
def RulesAt (W : World) (a : Option Addr) (rs : List RuleD) : Prop := ∀ j (h : j < rs.length), ∃ ad, a = some ad ∧ RowAt W (ad.add (j * 8)) rs[j]
theorem RulesAt.below {W W' : World} {a : Option Addr} {rs : List RuleD} (h : RulesAt W a rs) (k : Below W.heap.size W W') : RulesAt W' a rs := fun j hj =>
  let ⟨ad, h1, h2⟩ := h j hj
  ⟨ad, h1, h2.below k⟩
/-- The strings are no longer than a string can be. -/
def Fits (rs : List RuleD) : Prop := ∀ j (h : j < rs.length), rs[j].f.size ≤ 9223372036854775807 ∧ rs[j].k.size ≤ 9223372036854775807 ∧ rs[j].t.size ≤ 9223372036854775807
/-- The error of a rule, of rules, and of a policy. -/
def ruleC (r : RuleD) : Int := if nodeC r.op r.n r.i r.f r.k r.t ≠ 0 then nodeC r.op r.n r.i r.f r.k r.t else if r.e < 0 ∨ 10 < r.e then 2 else 0
def polC : List RuleD → Int → Int
  | [], d => if d < 0 ∨ 10 < d then 2 else 0
  | r :: rs, d => if ruleC r ≠ 0 then ruleC r else polC rs d
theorem polC_err {d : Int} : ∀ {rs : List RuleD} {j : Nat} (h : j < rs.length), (∀ m (hm : m < rs.length), m < j → ruleC rs[m] = 0) → ruleC rs[j] ≠ 0 → polC rs d = ruleC rs[j]
  | r :: rs, 0, h, _, h2 => by
    simp only [List.getElem_cons_zero] at h2 ⊢
    unfold polC
    rw [if_pos h2]
  | r :: rs, j + 1, h, h1, h2 => by
    have h0 := h1 0 (by simp) (by omega)
    simp only [List.getElem_cons_zero] at h0
    unfold polC
    rw [if_neg (by simpa using h0)]
    exact polC_err (by simpa using h) (fun m hm hmj => by have := h1 (m + 1) (by simpa using hm) (by omega); rw [List.getElem_cons_succ] at this; exact this) (by simpa using h2)
theorem polC_ok {d : Int} : ∀ {rs : List RuleD}, (∀ m (hm : m < rs.length), ruleC rs[m] = 0) → polC rs d = if d < 0 ∨ 10 < d then 2 else 0
  | [], _ => rfl
  | r :: rs, h => by
    have h0 := h 0 (by simp)
    simp only [List.getElem_cons_zero] at h0
    unfold polC
    rw [if_neg (by simpa using h0)]
    exact polC_ok fun m hm => by have := h (m + 1) (by simpa using hm); rw [List.getElem_cons_succ] at this; exact this

set_option maxRecDepth 20000 in
set_option maxHeartbeats 4000000 in
theorem polCheck_any (a : Option Addr) (rs : List RuleD) (c : Nat) (d : Int) (w : World) (hn : rs.length ≤ 3) (hr : RulesAt w a rs) (hf : Fits rs) :
    Calls Tryz.prog 14 #[.agg #[.slice a rs.length c, .int .i64 d]] w fun e w' => e = .returned (.int .i64 (polC rs d)) ∧ Below w.heap.size w w' := by
  have HR := Lib.hid hr
  have HF := Lib.hid hf
  clear hr hf
  have hA : Hid ((w.alloc (.cells #[.slice a rs.length c, .int .i64 d] 24)).cell? ⟨w.heap.size, 1, none⟩ = some (.int .i64 d)) := Lib.hid (cell_last _ _ _ 1 _ _ rfl rfl)
  go_enter Tryz.func14, Tryz.ntmps14
  go_wp2_with fail
  go_loopw [4, 5, 13] (fun r4 r5 i wr => ∃ j : Nat, j ≤ rs.length ∧ i = .int .i64 j ∧ Hid (∀ m (hm : m < rs.length), m < j → ruleC rs[m] = 0) ∧ Hid (Below (w.heap.size + 1) (w.alloc (.cells #[.slice a rs.length c, .int .i64 d] 24)) wr)) (fun _ _ i _ => rs.length - (intOf i).toNat)
  case atStart => exact ⟨0, by omega, rfl, Lib.hid (fun m _ hm => by omega), Lib.hid (Below.refl _ _)⟩
  case round =>
    obtain ⟨j, hj, rfl, hG, hB⟩ := hrel
    have hB2 : Hid (Below w.heap.size w wr) := Lib.hid ((below_alloc w _).trans (hB.out.mono (by omega)))
    by_cases hlt : j < rs.length
    · obtain ⟨ad, rfl, g0, g1, g2, g3, g4, g5, g6, g7⟩ := HR.out.below hB2.out j hlt
      obtain ⟨z1, z2, z3⟩ := HF.out j hlt
      have HE : Hid (ruleC rs[j] ≠ 0 → polC rs d = ruleC rs[j]) := Lib.hid (fun h => polC_err hlt hG.out h)
      have HN : Hid (ruleC rs[j] = 0 → ∀ m (hm : m < rs.length), m < j + 1 → ruleC rs[m] = 0) := Lib.hid (fun h m hm hmj => by
        by_cases hmj2 : m = j
        · subst hmj2; exact h
        · exact hG.out m hm (by omega))
      generalize rs[j] = r at *
      have r1 : Hid (nodeC r.op r.n r.i r.f r.k r.t ≠ 0 → ruleC r = nodeC r.op r.n r.i r.f r.k r.t) := Lib.hid (fun h => by unfold ruleC; rw [if_pos h])
      have r2 : Hid (nodeC r.op r.n r.i r.f r.k r.t = 0 → (r.e < 0 ∨ 10 < r.e) → ruleC r = 2) := Lib.hid (fun h h2 => by unfold ruleC; rw [if_neg (by simpa using h), if_pos h2])
      have r3 : Hid (nodeC r.op r.n r.i r.f r.k r.t = 0 → ¬ (r.e < 0 ∨ 10 < r.e) → ruleC r = 0) := Lib.hid (fun h h2 => by unfold ruleC; rw [if_neg (by simpa using h), if_neg h2])
      go_wp2_with (first
        | (go_at_call 50; (with_reducible refine (predCheck_any _ _ _ _ _ _ _ _ z1 z2 z3 _).mono ?_); rintro e w' ⟨rfl, hbb⟩;
           have q7 := (hbb.cell (p := ⟨wr.heap.size, 7, none⟩) (by simp)).trans (cell_last _ _ _ 7 _ _ rfl rfl);
           have HB3 := Lib.hid (hB.out.trans (((below_alloc wr _).trans (hbb.mono (by simp))).mono (by have := hB.out.size; simpa using this))); clear hbb))
      all_goals first
        | (go_ret
           have hz : nodeC r.op r.n r.i r.f r.k r.t ≠ 0 := by simpa using (by assumption : (nodeC r.op r.n r.i r.f r.k r.t != 0) = true)
           have e := r1.out hz
           exact ⟨by rw [HE.out (by rw [e]; exact hz), e]; rfl, (below_alloc w _).trans (HB3.out.mono (by omega))⟩)
        | (go_ret
           have hz : nodeC r.op r.n r.i r.f r.k r.t = 0 := by simpa using (by assumption : (nodeC r.op r.n r.i r.f r.k r.t != 0) = false)
           have e := r2.out hz (by omega)
           exact ⟨by rw [HE.out (by rw [e]; decide), e]; rfl, (below_alloc w _).trans (HB3.out.mono (by omega))⟩)
        | (have hz : nodeC r.op r.n r.i r.f r.k r.t = 0 := by simpa using (by assumption : (nodeC r.op r.n r.i r.f r.k r.t != 0) = false)
           exact ⟨⟨j + 1, by omega, by go_num, Lib.hid (HN.out (r3.out hz (by omega))), HB3⟩, by simp [intOf]; omega⟩)
    · obtain rfl : j = rs.length := by omega
      have q1 := (hB.out.cell (p := ⟨w.heap.size, 1, none⟩) (by simp)).trans hA.out
      have hp := polC_ok (d := d) (fun m hm => hG.out m hm hm)
      have HP := Lib.hid hp
      clear hp
      go_wp2_with fail
      all_goals
        go_ret
        refine ⟨?_, (below_alloc w _).trans (hB.out.mono (by omega))⟩
        rw [HP.out]
        first
          | (rw [if_pos (by omega)]; rfl)
          | (rw [if_neg (by omega)]; rfl)
end Go.Proofs.YtmhmnbaoanennaaGreatDoor
