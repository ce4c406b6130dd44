/- Contracts: the error of a policy, and a new keeper. -/
import Derived.Test.YtmhmnbaoanennaaGreatDoorPol
import Derived.Shelf.RegionOpenPlain
import Derived.Lib.SliceRun
import Derived.Lib.Walk
namespace Go.Proofs.YtmhmnbaoanennaaGreatDoor
open Go Go.Ev Go.Proofs Go.RowKit
set_option linter.unusedVariables false
set_option linter.unusedSimpArgs false

/-- The error of a policy. -/
def retC (f s : Int) (rs : List RuleD) (d x : Int) : Int := if f < 0 ∨ s < f ∨ 65536 < s then 2 else if polC rs d ≠ 0 then polC rs d else if x < 0 ∨ 1024 ≤ x then 2 else 0

set_option maxRecDepth 20000 in
set_option maxHeartbeats 4000000 in
theorem retCheck_any (f s x : Int) (a : Option Addr) (rs : List RuleD) (c : Nat) (d : Int) (w : World) (hn : rs.length ≤ 3) (hr : RulesAt w a rs) (hf : Fits rs) :
    Calls Tryz.prog 16 #[.agg #[.int .i64 f, .int .i64 s, .slice a rs.length c, .int .i64 d, .int .i64 x]] w fun e w' => e = .returned (.int .i64 (retC f s rs d x)) ∧ Below w.heap.size w w' := by
  have HR := Lib.hid hr
  have HF := Lib.hid hf
  have HL := Lib.hid hn
  clear hr hf hn
  go_enter Tryz.func16, Tryz.ntmps16
  go_wp2_with (first
    | (go_at_call 14; (with_reducible refine (polCheck_any _ _ _ _ _ HL.out (HR.out.below (below_alloc _ _)) HF.out).mono ?_); rintro e w' ⟨rfl, hbb⟩;
       have q4 := (hbb.cell (p := ⟨w.heap.size, 4, none⟩) (by simp)).trans (cell_last _ _ _ 4 _ _ rfl rfl);
       have HB := Lib.hid ((below_alloc w _).trans (hbb.mono (by simp))); clear hbb))
  all_goals
    go_ret
    refine ⟨?_, ?_⟩
    · first
        | (have hz : polC rs d = 0 := by simpa using (by assumption : (polC rs d != 0) = false)
           first
             | (have e : retC f s rs d x = 2 := by unfold retC; rw [if_neg (by omega), if_neg (by simpa using hz), if_pos (by omega)]
                rw [e]; rfl)
             | (have e : retC f s rs d x = 0 := by unfold retC; rw [if_neg (by omega), if_neg (by simpa using hz), if_neg (by omega)]
                rw [e]; rfl))
        | (have hz : polC rs d ≠ 0 := by simpa using (by assumption : (polC rs d != 0) = true)
           have e : retC f s rs d x = polC rs d := by unfold retC; rw [if_neg (by omega), if_pos hz]
           rw [e]; rfl)
        | (have e : retC f s rs d x = 2 := by unfold retC; rw [if_pos (by omega)]
           rw [e]; rfl)
    · first
        | exact HB.out
        | exact below_alloc _ _

/-- The cells of a rule. -/
def cellsR (r : RuleD) : List Value := [.int .i64 r.op, .string r.f, .string r.k, .int .i64 r.n, .string r.t, .int .i64 r.i, .slice r.A 0 r.c, .int .i64 r.e]
theorem cellsR_at {j u : Nat} {rs : List RuleD} {v : Value} (h : (rs.flatMap cellsR)[u]? = some v) : ∃ (j m : Nat) (hj : j < rs.length), u = j * 8 + m ∧ m < 8 ∧ (cellsR rs[j])[m]? = some v := by
  induction rs generalizing u with
  | nil => simp at h
  | cons r rs ih =>
    rw [List.flatMap_cons] at h
    have hl : (cellsR r).length = 8 := rfl
    by_cases hu : u < 8
    · rw [List.getElem?_append_left (by omega)] at h
      exact ⟨0, u, by simp, by omega, hu, h⟩
    · rw [List.getElem?_append_right (by omega), hl] at h
      obtain ⟨j, m, hj, h1, h2, h3⟩ := ih h
      exact ⟨j + 1, m, by simpa using hj, by omega, h2, by simpa using h3⟩
theorem add_none {ad : Addr} (h : ad.spot = none) (k : Nat) : ad.add k = ⟨ad.block, ad.off + k, none⟩ := by
  cases ad
  simp only at h
  subst h
  unfold Addr.add
  split
  · rename_i hk
    simp_all
  · rfl
theorem RulesAt.cells {W : World} {ad : Addr} {rs : List RuleD} (h : RulesAt W (some ad) rs) (hs : ad.spot = none) : ∀ u v, (rs.flatMap cellsR)[u]? = some v → W.cell? ⟨ad.block, ad.off + u, none⟩ = some v := by
  intro u v hv
  obtain ⟨j, m, hj, rfl, hm, h3⟩ := cellsR_at (j := 0) hv
  obtain ⟨ad', he, h0, h1, h2, h3', h4, h5, h6, h7⟩ := h j hj
  cases he
  rw [add_none hs] at h0 h1 h2 h3' h4 h5 h6 h7
  have hm8 : m = 0 ∨ m = 1 ∨ m = 2 ∨ m = 3 ∨ m = 4 ∨ m = 5 ∨ m = 6 ∨ m = 7 := by omega
  rcases hm8 with rfl | rfl | rfl | rfl | rfl | rfl | rfl | rfl <;> (simp only [cellsR, List.getElem?_cons_zero, List.getElem?_cons_succ, Option.some.injEq] at h3; subst h3; simpa [Nat.add_assoc] using by assumption)
theorem cellsR_one {rs : List RuleD} : ∀ u ∈ rs.flatMap cellsR, u.oneCell' = true := by
  intro u hu
  obtain ⟨r, _, hr⟩ := List.mem_flatMap.1 hu
  simp only [cellsR, List.mem_cons, List.not_mem_nil, or_false] at hr
  rcases hr with rfl | rfl | rfl | rfl | rfl | rfl | rfl | rfl <;> rfl
theorem cellsR_len {rs : List RuleD} : (rs.flatMap cellsR).length = rs.length * 8 := by
  induction rs with
  | nil => rfl
  | cons r rs ih => rw [List.flatMap_cons, List.length_append, ih]; simp [cellsR]; omega
/-- What is known of the rules' type. -/
noncomputable def infoOK (x : Option TypeInfo) : Bool :=
  match x with
  | some i => match i.zero with
    | some z => Nat.beq i.size 8 && Nat.beq i.bytes 104 && Nat.beq z.cells.toList.length 8
    | none => false
  | none => false
theorem infoOK_inv {x : Option TypeInfo} (h : infoOK x = true) : ∃ i z, x = some i ∧ i.zero = some z ∧ i.size = 8 ∧ i.bytes = 104 ∧ z.cells.size = 8 := by
  unfold infoOK at h
  split at h
  · rename_i i
    split at h
    · rename_i z hz
      rw [Bool.and_eq_true, Bool.and_eq_true] at h
      refine ⟨i, z, rfl, hz, Nat.eq_of_beq_eq_true h.1.1, Nat.eq_of_beq_eq_true h.1.2, ?_⟩
      have := Nat.eq_of_beq_eq_true h.2
      rwa [Array.length_toList] at this
    · cases h
  · cases h
theorem info36 : infoOK (Tryz.prog.info? 36) = true := by kernel_rfl

set_option maxRecDepth 20000 in
set_option maxHeartbeats 4000000 in
theorem clone_any (a : Option Addr) (rs : List RuleD) (c : Nat) (w : World) (hn : rs.length ≤ 3) (hs : ∀ x, a = some x → x.spot = none) (hr : RulesAt w a rs) :
    Calls Tryz.prog 104 #[.slice a rs.length c] w fun e w' => (∃ a' l c', e = .returned (.slice a' l c')) ∧ Below w.heap.size w w' := by
  have HR := Lib.hid hr
  clear hr
  have q22 : ∀ (w : World) (a : Option Addr) (n c n' c' : Nat), (binOp .eql 22 (.slice a n c) (.slice none n' c')).run Tryz.prog w = .ok (.bool a.isNone) w := fun w a n c n' c' => Lib.run_eql_slice_nil w _ _ a n c n' c' Tryz.underlying22
  go_enter Tryz.func104, Tryz.ntmps104
  cases a with
  | none =>
    go_wp2_with fail
    go_ret
    exact ⟨⟨_, _, _, rfl⟩, Below.refl _ _⟩
  | some ad =>
    have had := hs ad rfl
    obtain ⟨i0, z, hi, hz0, hz1, hz2, hzs⟩ := infoOK_inv info36
    have hC := HR.out.cells had
    have hL := cellsR_len (rs := rs)
    have h1 := cellsR_one (rs := rs)
    generalize rs.flatMap cellsR = news at hC hL h1
    have HC := Lib.hid hC
    have H1 := Lib.hid h1
    clear HR hs hC h1
    obtain ⟨b, off, spot⟩ := ad
    simp only at had
    subst had
    go_wp2_with (at_builtin; refine wpList_append_own _ rfl _ _ 22 rfl w.heap.size 36 i0 z 8 104 Tryz.underlying22 hi hz0 hz1 hz2 hzs (by decide) _ _ _ rfl (World.ownsRow_made w #[] 0 (Nat.le_refl _) (Nat.zero_le _) (by simp)) ⟨b, off, none⟩ rs.length c news rfl ?qc1 ?qc2 ?qc3 ?qc4 ?qc5 ?qc6 ?_)
    case qc2 =>
      intro j u hj
      exact Lib.cell?_alloc_some _ (HC.out j u hj)
    case qc3 => exact H1.out
    case qc4 => unfold maxLen; omega
    case qc5 => omega
    intro v' w1 hown hgrow hnil
    have HB := Lib.hid (((Below.refl _ w).alloc (Nat.le_refl _) _).grown hgrow (by simp) (by intro k hk; simp [Value.ownBlock] at hk; omega))
    obtain ⟨A', l', c', hv⟩ : ∃ A' l' c', v' = .slice A' l' c' := by
      rcases hown with ⟨_, ⟨hv, _⟩ | ⟨g, cap, cur, hv, _⟩⟩
      · exact absurd hv hnil
      · exact ⟨_, _, _, hv⟩
    subst hv
    clear hown hgrow hnil
    go_wp2
    go_ret
    exact ⟨⟨_, _, _, rfl⟩, HB.out⟩

set_option maxRecDepth 20000 in
set_option maxHeartbeats 4000000 in
theorem copied_any (f s x : Int) (a : Option Addr) (rs : List RuleD) (c : Nat) (d : Int) (w : World) (hn : rs.length ≤ 3) (hs : ∀ x, a = some x → x.spot = none) (hr : RulesAt w a rs) :
    Calls Tryz.prog 51 #[.agg #[.int .i64 f, .int .i64 s, .slice a rs.length c, .int .i64 d, .int .i64 x]] w fun e w' => (∃ a' l c', e = .returned (.agg #[.int .i64 f, .int .i64 s, .slice a' l c', .int .i64 d, .int .i64 x])) ∧ Below w.heap.size w w' := by
  have HR := Lib.hid hr
  have HL := Lib.hid hn
  clear hr hn
  go_enter Tryz.func51, Tryz.ntmps51
  go_wp2_with fail
  (with_reducible refine (clone_any a rs c _ HL.out hs (HR.out.below (((below_alloc w _).alloc (by simp) _)))).mono ?_)
  rintro e w1 ⟨⟨a', l', c', rfl⟩, hbb⟩
  have p0 := (hbb.cell (p := ⟨w.heap.size, 0, none⟩) (by simp; omega)).trans ((World.cell?_alloc_lt _ _ _ (by simp)).trans (cell_last _ _ _ 0 _ _ rfl rfl))
  have q0 := (hbb.cell (p := ⟨w.heap.size + 1, 0, none⟩) (by simp)).trans (cell_last _ _ _ 0 _ _ (by simp) rfl)
  have z0 := (hbb.frozen (p := ⟨w.heap.size + 1, 0, none⟩) (by simp)).trans (frozen_last _ _ _ 0 _ (by simp))
  have p1 := (hbb.cell (p := ⟨w.heap.size, 1, none⟩) (by simp; omega)).trans ((World.cell?_alloc_lt _ _ _ (by simp)).trans (cell_last _ _ _ 1 _ _ rfl rfl))
  have q1 := (hbb.cell (p := ⟨w.heap.size + 1, 1, none⟩) (by simp)).trans (cell_last _ _ _ 1 _ _ (by simp) rfl)
  have z1 := (hbb.frozen (p := ⟨w.heap.size + 1, 1, none⟩) (by simp)).trans (frozen_last _ _ _ 1 _ (by simp))
  have p2 := (hbb.cell (p := ⟨w.heap.size, 2, none⟩) (by simp; omega)).trans ((World.cell?_alloc_lt _ _ _ (by simp)).trans (cell_last _ _ _ 2 _ _ rfl rfl))
  have q2 := (hbb.cell (p := ⟨w.heap.size + 1, 2, none⟩) (by simp)).trans (cell_last _ _ _ 2 _ _ (by simp) rfl)
  have z2 := (hbb.frozen (p := ⟨w.heap.size + 1, 2, none⟩) (by simp)).trans (frozen_last _ _ _ 2 _ (by simp))
  have p3 := (hbb.cell (p := ⟨w.heap.size, 3, none⟩) (by simp; omega)).trans ((World.cell?_alloc_lt _ _ _ (by simp)).trans (cell_last _ _ _ 3 _ _ rfl rfl))
  have q3 := (hbb.cell (p := ⟨w.heap.size + 1, 3, none⟩) (by simp)).trans (cell_last _ _ _ 3 _ _ (by simp) rfl)
  have z3 := (hbb.frozen (p := ⟨w.heap.size + 1, 3, none⟩) (by simp)).trans (frozen_last _ _ _ 3 _ (by simp))
  have p4 := (hbb.cell (p := ⟨w.heap.size, 4, none⟩) (by simp; omega)).trans ((World.cell?_alloc_lt _ _ _ (by simp)).trans (cell_last _ _ _ 4 _ _ rfl rfl))
  have q4 := (hbb.cell (p := ⟨w.heap.size + 1, 4, none⟩) (by simp)).trans (cell_last _ _ _ 4 _ _ (by simp) rfl)
  have z4 := (hbb.frozen (p := ⟨w.heap.size + 1, 4, none⟩) (by simp)).trans (frozen_last _ _ _ 4 _ (by simp))
  have f2 := (hbb.frozen (p := ⟨w.heap.size, 2, none⟩) (by simp; omega)).trans (((below_alloc _ _).frozen (p := ⟨w.heap.size, 2, none⟩) (by simp)).trans (frozen_last _ _ _ 2 _ rfl))
  have HB := Lib.hid (((below_alloc w _).alloc (by simp) _).trans (hbb.mono (by simp; omega)))
  clear hbb
  go_wp2
  (try simp only [Exit.inBlock, Exit.then])
  refine bodyPost_ret (results_cell (v := .agg #[.int .i64 f, .int .i64 s, .slice a' l' c', .int .i64 d, .int .i64 x]) rfl ?_) rfl ⟨⟨_, _, _, rfl⟩, ?_⟩
  · simp only [resF]
    go_simp
  · exact (((((HB.out.setCell (p := ⟨w.heap.size, 2, none⟩) (Nat.le_refl _) _).setCell (p := ⟨w.heap.size + 1, 0, none⟩) (by simp) _).setCell (p := ⟨w.heap.size + 1, 1, none⟩) (by simp) _).setCell (p := ⟨w.heap.size + 1, 2, none⟩) (by simp) _).setCell (p := ⟨w.heap.size + 1, 3, none⟩) (by simp) _).setCell (p := ⟨w.heap.size + 1, 4, none⟩) (by simp) _
/-- A new keeper, or the error. -/
theorem New_any (f s x : Int) (a : Option Addr) (rs : List RuleD) (c : Nat) (d : Int) (w : World) (hn : rs.length ≤ 3) (hs : ∀ x, a = some x → x.spot = none) (hr : RulesAt w a rs) (hf : Fits rs) :
    Calls Tryz.prog 15 #[.agg #[.int .i64 f, .int .i64 s, .slice a rs.length c, .int .i64 d, .int .i64 x]] w fun e w' =>
      (∃ p : Option Addr, e = .returned (.tuple #[.pointer p, .int .i64 (retC f s rs d x)]) ∧ (p = none ↔ retC f s rs d x ≠ 0)) ∧ Below w.heap.size w w' := by
  have HR := Lib.hid hr
  have HF := Lib.hid hf
  have HL := Lib.hid hn
  have HS := Lib.hid hs
  clear hr hf hn hs
  go_enter Tryz.func15, Tryz.ntmps15
  go_wp2_with fail
  (with_reducible refine (retCheck_any f s x a rs c d _ HL.out (HR.out.below (below_alloc w _)) HF.out).mono ?_)
  rintro e w1 ⟨rfl, hbb⟩
  have p0 := (hbb.cell (p := ⟨w.heap.size, 0, none⟩) (by simp)).trans (cell_last _ _ _ 0 _ _ rfl rfl)
  have p1 := (hbb.cell (p := ⟨w.heap.size, 1, none⟩) (by simp)).trans (cell_last _ _ _ 1 _ _ rfl rfl)
  have p2 := (hbb.cell (p := ⟨w.heap.size, 2, none⟩) (by simp)).trans (cell_last _ _ _ 2 _ _ rfl rfl)
  have p3 := (hbb.cell (p := ⟨w.heap.size, 3, none⟩) (by simp)).trans (cell_last _ _ _ 3 _ _ rfl rfl)
  have p4 := (hbb.cell (p := ⟨w.heap.size, 4, none⟩) (by simp)).trans (cell_last _ _ _ 4 _ _ rfl rfl)
  have HB := Lib.hid ((below_alloc w _).trans (hbb.mono (by simp)))
  clear hbb
  have mk : ∀ (t : TypeId) (w : World), (Instr.makeMap t none).run Tryz.prog w = .ok (.map (some w.heap.size)) (w.alloc (.map #[] 0)) := fun t w => rfl
  go_wp2_with (first
    | (go_at_call 51; (with_reducible refine (copied_any f s x a rs c d _ HL.out HS.out (HR.out.below HB.out)).mono ?_); rintro e w2 ⟨⟨a', l', c', rfl⟩, hb2⟩;
       have HB2 := Lib.hid (HB.out.trans (hb2.mono HB.out.size)); clear hb2))
  · have hz : retC f s rs d x ≠ 0 := by simpa using (by assumption : (retC f s rs d x != 0) = true)
    go_ret2
    exact ⟨⟨none, rfl, fun _ => hz, fun _ => rfl⟩, HB.out⟩
  · have hz : retC f s rs d x = 0 := by simpa using (by assumption : (retC f s rs d x != 0) = false)
    have hsz := HB2.out.size
    go_ret2
    refine ⟨⟨some ⟨w2.heap.size + 1 + 1 + 1 + 1, 0, none⟩, by rw [hz]; rfl, fun h => (by cases h), fun h => absurd hz h⟩, ?_⟩
    exact ((((HB2.out.alloc hsz _).alloc (by simp; omega) _).alloc (by simp; omega) _).alloc (by simp; omega) _).alloc (by simp; omega) _
/-- The rule of a described policy. -/
def failedR (e : Int) : RuleD := ⟨5, ⟨#[101, 114, 114, 111, 114]⟩, ⟨#[]⟩, 3, ⟨#[]⟩, 1, none, 0, e⟩
theorem Policy_full (a0 a1 a2 a3 a4 : Int) (h0 : 0 ≤ a0 ∧ a0 < 256) (h1 : 0 ≤ a1 ∧ a1 < 256) (h2 : 0 ≤ a2 ∧ a2 < 256) (h3 : 0 ≤ a3 ∧ a3 < 256) (h4 : 0 ≤ a4 ∧ a4 < 256) (w : World) : Calls Tryz.prog 17 #[.agg #[.int .u8 a0, .int .u8 a1, .int .u8 a2, .int .u8 a3, .int .u8 a4]] w fun e w' =>
    (∃ b, e = .returned (.agg #[.int .i64 (a0 % 3), .int .i64 (a0 % 3 + a1 % 3), .slice (some ⟨b, 0, none⟩) 1 1, .int .i64 (1 + a2 % 3), .int .i64 a4]) ∧ RulesAt w' (some ⟨b, 0, none⟩) [failedR (a3 % 3)]) ∧ Below w.heap.size w w' := by
  obtain ⟨h00, h01⟩ := h0
  obtain ⟨h10, h11⟩ := h1
  obtain ⟨h20, h21⟩ := h2
  obtain ⟨h30, h31⟩ := h3
  obtain ⟨h40, h41⟩ := h4
  go_enter Tryz.func17, Tryz.ntmps17
  go_wp2
  (try simp only [Exit.inBlock, Exit.then])
  refine bodyPost_ret (results_cell rfl (by simp only [resF]; go_simp; rfl)) rfl ?_
  refine ⟨⟨_, rfl, ?_⟩, (((below_alloc _ _).alloc (by simp) _).alloc (by simp; omega) _).alloc (by simp; omega) _⟩
  intro j hj
  have hj0 : j = 0 := by simpa using hj
  subst hj0
  refine ⟨_, rfl, ?_⟩
  have ha : ({ block := w.heap.size + 1 + 1 + 1, off := 0, spot := none } : Addr).add (0 * 8) = { block := w.heap.size + 1 + 1 + 1, off := 0, spot := none } := rfl
  rw [ha]
  exact ⟨cell_last _ _ _ 0 _ _ (by simp) rfl, cell_last _ _ _ 1 _ _ (by simp) rfl, cell_last _ _ _ 2 _ _ (by simp) rfl, cell_last _ _ _ 3 _ _ (by simp) rfl, cell_last _ _ _ 4 _ _ (by simp) rfl, cell_last _ _ _ 5 _ _ (by simp) rfl, cell_last _ _ _ 6 _ _ (by simp) rfl, cell_last _ _ _ 7 _ _ (by simp) rfl⟩
theorem described_ok (a0 a1 a2 a3 a4 : Int) (h0 : 0 ≤ a0 ∧ a0 < 256) (h1 : 0 ≤ a1 ∧ a1 < 256) (h2 : 0 ≤ a2 ∧ a2 < 256) (h3 : 0 ≤ a3 ∧ a3 < 256) (h4 : 0 ≤ a4 ∧ a4 < 256) : retC (a0 % 3) (a0 % 3 + a1 % 3) [failedR (a3 % 3)] (1 + a2 % 3) a4 = 0 := by
  have hn : nodeC 5 3 1 ⟨#[101, 114, 114, 111, 114]⟩ ⟨#[]⟩ ⟨#[]⟩ = 0 := by kernel_rfl
  have hr : ruleC (failedR (a3 % 3)) = 0 := by
    unfold ruleC failedR
    rw [if_neg (by simpa using hn), if_neg (by simp only; omega)]
  have hp : polC [failedR (a3 % 3)] (1 + a2 % 3) = 0 := by
    unfold polC
    rw [if_neg (by simpa using hr)]
    unfold polC
    rw [if_neg (by omega)]
  unfold retC
  rw [if_neg (by omega), if_neg (by simpa using hp), if_neg (by omega)]
end Go.Proofs.YtmhmnbaoanennaaGreatDoor
