/- Part 4 of the proof: contracts. Contract: the error of a span's attributes; Contract: the error of a span; Contract: the error of a trace; Contract: sampling.Exponent; Contract: a trace copied, with another weight; The model's operations on words of 32 and 64 bits, said of Lean's words. No conditions; Contracts: the mixed word, the hash of a trace, what is kept, the weights; Contract: the number of zeros at the end of a power of two; A weight that is in order is a power of two; Rows of traces; Contract: the traces of a story; Plain law: the traces of a story are valid; A story, opened out of its reading; Predicates and polic. -/
import Derived.Test.YtnddlpfmagdbfaaGreatDoorMSamplesc
import Derived.Test.YtnddlpfmagdbfaaGreatDoorMSamplesa
import Derived.Test.YtnddlpfmagdbfaaGreatDoorMSamplesb
import Derived.Deep.RegionHeld3
import Derived.Deep.DeepCutAuto
import Derived.WalkKit
import Derived.WideLaws
import Derived.Laws.BitsLemmas
import Derived.RowKit
import Derived.KernelRfl
import Derived.Below
import Derived.Lib.Hide
import Derived.Deep.QuietTactic
import Derived.BigQuiet
import Derived.Deep.Upon
/- Contract: the error of a span's attributes. -/
namespace Go.Proofs.YtnddlpfmagdbfaaGreatDoor
open Go Go.Proofs Go.RowKit
set_option linter.unusedVariables false
set_option linter.unusedSimpArgs false
/-- Is a string at most another one? -/
def leS (a b : ByteArray) : Bool := Op.bytesLess a.toList b.toList || a.toList == b.toList
/-- The error of an attribute behind another one. -/
def attrErr (prev : Option AttrD) (x : AttrD) : Int :=
  if nameB x.key = false then 11 else if (match prev with | none => false | some y => leS x.key y.key) = true then 8 else valC x.kind x.num x.text
def attrsFrom : Option AttrD → List AttrD → Int
  | _, [] => 0
  | p, x :: l => if attrErr p x ≠ 0 then attrErr p x else attrsFrom (some x) l
def attrsErr (L : List AttrD) : Int := if 32 < L.length then 6 else attrsFrom none L
theorem attrsFrom_drop {L : List AttrD} {p : Option AttrD} {j : Nat} (h : j < L.length) : attrsFrom p (L.drop j) = if attrErr p L[j] ≠ 0 then attrErr p L[j] else attrsFrom (some L[j]) (L.drop (j + 1)) := by
  rw [List.drop_eq_getElem_cons h]; rfl
theorem attrs_cells {W : World} {a : Option Addr} {L : List AttrD} (h : AttrsAt W a L) {j : Nat} (hj : j < L.length) : ∃ b o, a = some ⟨b, o, none⟩ ∧ W.rangeAt b (o + j * 4) L[j].cells := by
  obtain ⟨⟨b, o, g⟩, h1, h2, h3, h4, h5⟩ := h j hj
  cases g with
  | none =>
    rw [Addr.add_mid] at h2 h3 h4 h5
    refine ⟨b, o, h1, fun k v hv => ?_⟩
    unfold AttrD.cells at hv
    match k, hv with
    | 0, hv => cases hv; exact h2
    | 1, hv => cases hv; exact h3
    | 2, hv => cases hv; exact h4
    | 3, hv => cases hv; exact h5
  | some g =>
    exfalso
    obtain ⟨ad, k1, k2, _⟩ := h 0 (by omega)
    obtain rfl : (⟨b, o, some g⟩ : Addr) = ad := Option.some.inj (h1.symm.trans k1)
    unfold World.cell? Addr.add at k2
    revert k2
    simp
    split <;> simp
set_option maxHeartbeats 16000000 in
set_option maxRecDepth 20000 in
theorem attrs_any (a : Option Addr) (L : List AttrD) (n c : Nat) (hn : n = L.length) (w : World) (h : AttrsAt w a L) (hl : L.length ≤ 9223372036854775807) (hs : ∀ x ∈ L, x.key.size ≤ 9223372036854775807 ∧ x.text.size ≤ 9223372036854775807) :
    Calls Tryz.prog 43 #[.slice a n c] w fun e w' => e = .returned (.int .i64 (attrsErr L)) ∧ Below w.heap.size w w' := by
  subst hn
  have HR := Lib.hid h
  have HS := Lib.hid hs
  clear h hs
  by_cases h16 : 32 < L.length
  · have hd : decide ((32 : Int) < (L.length : Int)) = true := decide_eq_true (by omega)
    have hv : Hid (attrsErr L = 6) := Lib.hid (by unfold attrsErr; exact if_pos h16)
    go_enter Tryz.func43, Tryz.ntmps43
    go_wp2_with fail
    go_ret
    exact ⟨by rw [hv.out]; rfl, Below.refl _ _⟩
  · have hd : decide ((32 : Int) < (L.length : Int)) = false := decide_eq_false (by omega)
    have hv : Hid (attrsErr L = attrsFrom none L) := Lib.hid (by unfold attrsErr; exact if_neg h16)
    go_enter Tryz.func43, Tryz.ntmps43
    go_wp2_with fail
    go_loopw [3, 4, 5, 11] (fun a b d i wr => ∃ j : Nat, j ≤ L.length ∧ i = .int .i64 j ∧ Hid (attrsErr L = attrsFrom (prevOf L j) (L.drop j)) ∧ Hid (Below w.heap.size w wr)) (fun _ _ _ i _ => L.length - (intOf i).toNat)
    case atStart => exact ⟨0, by omega, rfl, hv, Lib.hid (Below.refl _ _)⟩
    case round =>
      obtain ⟨j, hj, rfl, hG, hK⟩ := hrel
      by_cases hlt : j < L.length
      · have hlt2 : decide (j < L.length) = true := decide_eq_true hlt
        obtain ⟨b, o, hA, hrg⟩ := attrs_cells (attrs_below HR.out hK.out) hlt
        subst hA
        have g0 : wr.cell? ⟨b, o + j * 4, none⟩ = some (.string L[j].key) := hrg 0 _ rfl
        have g1 : wr.cell? ⟨b, o + j * 4 + 1, none⟩ = some (.int .i64 L[j].kind) := hrg 1 _ rfl
        have g2 : wr.cell? ⟨b, o + j * 4 + 2, none⟩ = some (.string L[j].text) := hrg 2 _ rfl
        have g3 : wr.cell? ⟨b, o + j * 4 + 3, none⟩ = some (.int .i64 L[j].num) := hrg 3 _ rfl
        clear hrg
        have hsz := HS.out _ (List.getElem_mem hlt)
        have hD := Lib.hid (attrsFrom_drop (p := prevOf L j) hlt)
        have hp1 : prevOf L (j + 1) = some L[j] := List.getElem?_eq_getElem hlt
        have hnext : Hid (attrErr (prevOf L j) L[j] = 0 → attrsErr L = attrsFrom (prevOf L (j + 1)) (L.drop (j + 1))) := Lib.hid (fun h => by rw [hG.out, hD.out, if_neg (by rw [h]; decide), hp1])
        have hfin : Hid (attrErr (prevOf L j) L[j] ≠ 0 → attrsErr L = attrErr (prevOf L j) L[j]) := Lib.hid (fun h => by rw [hG.out, hD.out, if_pos h])
        have hKA := Lib.hid (hK.out.alloc hK.out.size (.cells #[.string L[j].key, .int .i64 L[j].kind, .string L[j].text, .int .i64 L[j].num] 110))
        have hxB := Lib.hid (blk_new wr #[.string L[j].key, .int .i64 L[j].kind, .string L[j].text, .int .i64 L[j].num] 110)
        clear hD hp1
        by_cases h0 : j = 0
        · have hj0 : decide ((0 : Int) < (j : Int)) = false := decide_eq_false (by omega)
          have hj1 : decide (0 < j) = false := decide_eq_false (by omega)
          have hj2 : ¬ 0 < j := by omega
          have hpn : prevOf L j = none := by rw [h0]; rfl
          generalize L[j] = x at *
          rw [hpn] at hnext hfin
          have hle : Hid (attrErr none x = if nameB x.key = false then 11 else if false = true then 8 else valC x.kind x.num x.text) := Lib.hid rfl
          generalize attrErr none x = le at *
          have hN := Lib.hid (fun W => IsName_any x.key hsz.1 W)
          have hV := Lib.hid (fun W => CheckValue_any x.kind x.num x.text hsz.2 W)
          generalize valC x.kind x.num x.text = v at *
          clear hpn h0 hsz
          cases hb1 : nameB x.key
          · have hz : Hid (attrsErr L = 11) := Lib.hid (by rw [hfin.out (by rw [hle.out, hb1]; simp), hle.out, hb1]; simp)
            rw [hb1] at hN
            clear hfin hnext hle
            go_wp2_with (first
              | (go_at_call 41; (with_reducible refine (hN.out _).mono ?_); rintro e w' ⟨rfl, rfl⟩))
            go_ret
            exact ⟨by rw [hz.out]; rfl, hKA.out⟩
          · rw [hb1] at hN
            have hle2 : Hid (le = v) := Lib.hid (by rw [hle.out, hb1]; simp)
            clear hle
            by_cases hv0 : v = 0
            · have hv1 : (v != 0) = false := by rw [hv0]; rfl
              have hz := Lib.hid (hnext.out (by rw [hle2.out]; exact hv0))
              clear hfin hnext hle2 hv0
              go_wp2_with (first
                | (go_at_call 41; (with_reducible refine (hN.out _).mono ?_); rintro e w' ⟨rfl, rfl⟩))
              go_quiet (fail)
              go_wp2_with (first
                | (go_at_call 66; (with_reducible refine (hV.out _).mono ?_); rintro e w5 ⟨rfl, hk⟩; have hk := Lib.hid (hKA.out.trans (((Grew.drewN (wr.alloc (.cells #[.string x.key, .int .i64 x.kind, .string x.text, .int .i64 x.num] 110)) nq).b.trans hk).mono hKA.out.size))))
              exact ⟨⟨j + 1, by omega, by go_num, hz, hk⟩, by simp [intOf]; omega⟩
            · have hv1 : (v != 0) = true := by rw [bne_iff_ne]; exact hv0
              have hz : Hid (attrsErr L = v) := Lib.hid (by rw [hfin.out (by rw [hle2.out]; exact hv0), hle2.out])
              clear hfin hnext hle2 hv0
              go_wp2_with (first
                | (go_at_call 41; (with_reducible refine (hN.out _).mono ?_); rintro e w' ⟨rfl, rfl⟩))
              go_quiet (fail)
              go_wp2_with (first
                | (go_at_call 66; (with_reducible refine (hV.out _).mono ?_); rintro e w5 ⟨rfl, hk⟩; have hk := Lib.hid (hKA.out.trans (((Grew.drewN (wr.alloc (.cells #[.string x.key, .int .i64 x.kind, .string x.text, .int .i64 x.num] 110)) nq).b.trans hk).mono hKA.out.size))))
              go_ret
              exact ⟨by rw [hz.out]; rfl, hk.out⟩
        · have hj0 : decide ((0 : Int) < (j : Int)) = true := decide_eq_true (by omega)
          have hj1 : decide (0 < j) = true := decide_eq_true (by omega)
          have hj2 : 0 < j := by omega
          obtain ⟨m, hm⟩ : ∃ m, j = m + 1 := ⟨j - 1, by omega⟩
          have hml : m < L.length := by omega
          obtain ⟨b', o', hA', hyr⟩ := attrs_cells (attrs_below HR.out hK.out) hml
          obtain ⟨rfl, rfl⟩ : b' = b ∧ o' = o := by cases hA'; exact ⟨rfl, rfl⟩
          have y0 : wr.cell? ⟨b', o' + m * 4, none⟩ = some (.string L[m].key) := hyr 0 _ rfl
          clear hyr
          have hpn : prevOf L j = some L[m] := by rw [hm]; exact List.getElem?_eq_getElem hml
          have hw1 : IntKind.i64.wrap ((j : Int) - 1) = (m : Int) := by rw [IntWalk.i64_in _ (by omega)]; omega
          generalize L[j] = x at *
          generalize L[m] = y at *
          rw [hpn] at hnext hfin
          have hle : Hid (attrErr (some y) x = if nameB x.key = false then 11 else if leS x.key y.key = true then 8 else valC x.kind x.num x.text) := Lib.hid rfl
          generalize attrErr (some y) x = le at *
          have hN := Lib.hid (fun W => IsName_any x.key hsz.1 W)
          have hV := Lib.hid (fun W => CheckValue_any x.kind x.num x.text hsz.2 W)
          generalize valC x.kind x.num x.text = v at *
          have hjm := Lib.hid hm
          clear hpn hA' hm hsz
          have z0 := (Grew.alloc wr (.cells #[.string x.key, .int .i64 x.kind, .string x.text, .int .i64 x.num] 110)).cell y0
          cases hb1 : nameB x.key
          · have hz : Hid (attrsErr L = 11) := Lib.hid (by rw [hfin.out (by rw [hle.out, hb1]; simp), hle.out, hb1]; simp)
            rw [hb1] at hN
            clear hfin hnext hle
            go_wp2_with (first
              | (go_at_call 41; (with_reducible refine (hN.out _).mono ?_); rintro e w' ⟨rfl, rfl⟩))
            go_ret
            exact ⟨by rw [hz.out]; rfl, hKA.out⟩
          · rw [hb1] at hN
            go_wp2_with (first
              | (go_at_call 41; (with_reducible refine (hN.out _).mono ?_); rintro e w' ⟨rfl, rfl⟩))
            go_quiet (fail)
            unfold leS at hle
            generalize (Op.bytesLess x.key.toList y.key.toList || x.key.toList == y.key.toList) = q at *
            cases q
            · have hle2 : Hid (le = v) := Lib.hid (by rw [hle.out, hb1]; simp)
              clear hle
              by_cases hv0 : v = 0
              · have hv1 : (v != 0) = false := by rw [hv0]; rfl
                have hz := Lib.hid (hnext.out (by rw [hle2.out]; exact hv0))
                clear hfin hnext hle2 hv0
                go_wp2_with (first
                  | (go_at_call 66; (with_reducible refine (hV.out _).mono ?_); rintro e w5 ⟨rfl, hk⟩; have hk := Lib.hid (hKA.out.trans (((Grew.drewN (wr.alloc (.cells #[.string x.key, .int .i64 x.kind, .string x.text, .int .i64 x.num] 110)) nq).b.trans hk).mono hKA.out.size))))
                exact ⟨⟨j + 1, by omega, by go_num, hz, hk⟩, by simp [intOf]; omega⟩
              · have hv1 : (v != 0) = true := by rw [bne_iff_ne]; exact hv0
                have hz : Hid (attrsErr L = v) := Lib.hid (by rw [hfin.out (by rw [hle2.out]; exact hv0), hle2.out])
                clear hfin hnext hle2 hv0
                go_wp2_with (first
                  | (go_at_call 66; (with_reducible refine (hV.out _).mono ?_); rintro e w5 ⟨rfl, hk⟩; have hk := Lib.hid (hKA.out.trans (((Grew.drewN (wr.alloc (.cells #[.string x.key, .int .i64 x.kind, .string x.text, .int .i64 x.num] 110)) nq).b.trans hk).mono hKA.out.size))))
                go_ret
                exact ⟨by rw [hz.out]; rfl, hk.out⟩
            · have hz : Hid (attrsErr L = 8) := Lib.hid (by rw [hfin.out (by rw [hle.out, hb1]; simp), hle.out, hb1]; simp)
              clear hle hfin hnext
              go_wp2_with fail
              go_ret
              exact ⟨by rw [hz.out]; rfl, hKA.out.trans ((Grew.drewN _ nq).b.mono hKA.out.size)⟩
      · have hj2 : j = L.length := by omega
        subst hj2
        have hlt2 : decide (L.length < L.length) = false := decide_eq_false hlt
        have hz : Hid (attrsErr L = 0) := Lib.hid (by rw [hG.out, List.drop_length]; cases prevOf L L.length <;> rfl)
        go_wp2_with fail
        go_ret
        exact ⟨by rw [hz.out]; rfl, hK.out⟩
end Go.Proofs.YtnddlpfmagdbfaaGreatDoor
/- Contract: the error of a span. -/
namespace Go.Proofs.YtnddlpfmagdbfaaGreatDoor
open Go Go.Proofs Go.RowKit
set_option linter.unusedVariables false
set_option linter.unusedSimpArgs false
/-- The error of a span's own fields. -/
def headErr (x : SpanD) : Int :=
  if badX x.trace = true ∨ badX x.id = true ∨ x.parent < 0 ∨ 1099511627776 < x.parent ∨ x.rev < 0 ∨ 1048576 < x.rev ∨ x.clock < 1 ∨ 1048576 < x.clock then 2
  else if x.kind < 1 ∨ 5 < x.kind then 12
  else if nameB x.svc = false ∨ nameB x.op = false ∨ (x.ver.toList ≠ [] ∧ nameB x.ver = false) then 11
  else if min x.st x.en < -1099511627776 ∨ 1099511627776 < max x.st x.en then 32
  else if x.en < x.st then 8
  else if 1099511627776 < wrap64 (x.en - x.st) then 32
  else 0
def spanErr (x : SpanD) : Int := if headErr x ≠ 0 then headErr x else orI [attrsErr x.attrs, linksErr x.links]
set_option maxHeartbeats 16000000 in
set_option maxRecDepth 20000 in
theorem spanCheck_any (x : SpanD) (w : World) (hx : x.Held w) (hs : x.Txt) :
    Calls Tryz.prog 26 #[.agg x.cells.toArray] w fun e w' => e = .returned (.int .i64 (spanErr x)) ∧ Below w.heap.size w w' := by
  have hBx := Lib.hid ((Below.refl _ w).alloc (Nat.le_refl _) (.cells x.cells.toArray 73))
  have hN1 := Lib.hid (fun W => IsName_any x.svc hs.svc W)
  have hN2 := Lib.hid (fun W => IsName_any x.op hs.op W)
  have hN3 := Lib.hid (fun W => IsName_any x.ver hs.ver W)
  have HX := Lib.hid hx
  have HA := Lib.hid (fun W (h : Below w.heap.size w W) => attrs_any x.aA x.attrs x.attrs.length x.aC rfl W (hx.keeps W h).attrs hx.na hs.attrs)
  have HL := Lib.hid (fun W (h : Below w.heap.size w W) => links_any x.lA x.links x.links.length x.lC rfl W (hx.keeps W h).links hx.nl)
  clear hx hs
  have hB := Lib.hid (blk_new w x.cells.toArray 73)
  have hc12 : Hid ((w.alloc (.cells x.cells.toArray 73)).cell? ⟨w.heap.size, 12, none⟩ = some (.slice x.aA x.attrs.length x.aC)) := Lib.hid (cell_blk hB.out 12 rfl)
  have hK13 := Lib.hid (fun W (h : Below (w.alloc (.cells x.cells.toArray 73)).heap.size (w.alloc (.cells x.cells.toArray 73)) W) => (cell_blk (blk_keep h hB.out) 13 rfl : W.cell? ⟨w.heap.size, 13, none⟩ = some (.slice x.lA x.links.length x.lC)))
  clear hB
  unfold SpanD.cells at hBx hc12 hK13 ⊢
  go_enter Tryz.func26, Tryz.ntmps26
  go_wp2_with (first
    | (go_at_call 40; (with_reducible refine (badId_any _ _).mono ?_); rintro e w' ⟨rfl, rfl⟩)
    | (go_at_call 41; (first | (with_reducible refine (hN1.out _).mono ?_) | (with_reducible refine (hN2.out _).mono ?_) | (with_reducible refine (hN3.out _).mono ?_)); rintro e w' ⟨rfl, rfl⟩))
  all_goals try
    go_ret
    refine ⟨?_, hBx.out⟩
    first
      | (simp_all [spanErr, headErr]; done)
      | (simp_all [spanErr, headErr]; omega)
      | (have hw : wrap64 (x.en - x.st) = x.en - x.st := IntWalk.wrap64_in _ (by omega)
         have hh : headErr x = 32 := by
           unfold headErr
           rw [if_neg (by rintro (h | h | h | h | h | h | h | h) <;> first | omega | simp_all), if_neg (by omega), if_neg (by rintro (h | h | ⟨h, h'⟩) <;> simp_all), if_neg (by omega), if_neg (by omega), if_pos (by rw [hw]; omega)]
         have h9 : spanErr x = 32 := by
           unfold spanErr
           rw [hh]
           exact if_pos (by decide)
         rw [h9]
         rfl)
  all_goals
    have hv0 : Hid (headErr x = 0) := Lib.hid (by
      have hw : wrap64 (x.en - x.st) = x.en - x.st := IntWalk.wrap64_in _ (by omega)
      unfold headErr
      rw [if_neg (by rintro (h | h | h | h | h | h | h | h) <;> first | omega | simp_all), if_neg (by omega), if_neg (by rintro (h | h | ⟨h, h'⟩) <;> simp_all), if_neg (by omega), if_neg (by omega), if_neg (by rw [hw]; omega)])
    have hv : Hid (spanErr x = orI [attrsErr x.attrs, linksErr x.links]) := Lib.hid (if_neg (by
      have h : headErr x = 0 := hv0.out
      rw [h]
      simp))
    generalize attrsErr x.attrs = ea at *
    generalize linksErr x.links = el at *
    have c12 := hc12.out
    have c13 := hK13.out _ (Below.refl _ _)
    clear hc12
    generalize w.alloc (.cells #[.int .i64 x.trace, .int .i64 x.id, .int .i64 x.parent, .int .i64 x.rev, .int .i64 x.clock, .int .i64 x.kind, .string x.svc, .string x.ver, .string x.op, .int .i64 x.st, .int .i64 x.en, .bool x.err, .slice x.aA x.attrs.length x.aC, .slice x.lA x.links.length x.lC] 73) = W0 at *
    go_region_with (first
      | (go_at_call 43; (with_reducible refine (HA.out _ (hBx.out.trans ((below_drew W0).mono hBx.out.size))).mono ?_); rintro e w1 ⟨rfl, hk1⟩; have hk1 := Lib.hid ((below_drew W0).trans hk1); have y13 : w1.cell? ⟨w.heap.size, 13, none⟩ = some (.slice x.lA x.links.length x.lC) := hK13.out w1 hk1.out; clear c12 c13)
      | (go_at_call 44; (with_reducible refine (HL.out _ (hBx.out.trans (hk1.out.mono hBx.out.size))).mono ?_); rintro e w2 ⟨rfl, hk2⟩; have hk2 := Lib.hid (hk1.out.trans (hk2.mono hk1.out.size)); have hO := fun t => orE_any (some ⟨w2.heap.size, 0, none⟩) [ea, el] 2 2 _ rfl (ints_new w2 [ea, el] t) (by simp); simp only [List.map_cons, List.map_nil] at hO)
      | (go_at_call 42; (with_reducible refine (hO _).mono ?_); rintro e w3 ⟨rfl, rfl⟩))
    all_goals
      go_wp2_with fail
      go_ret
      exact ⟨by rw [hv.out]; rfl, (hBx.out.trans (hk2.out.mono hBx.out.size)).alloc (Nat.le_trans hBx.out.size hk2.out.size) _⟩
/-- A span in order has few attributes and links. -/
theorem spanErr_small {x : SpanD} (h : spanErr x = 0) : x.attrs.length ≤ 32 ∧ x.links.length ≤ 16 := by
  unfold spanErr at h
  split at h
  · contradiction
  · unfold orI at h
    split at h
    · contradiction
    · rename_i _ h1
      unfold orI at h
      split at h
      · contradiction
      · rename_i h2
        simp only [ne_eq, Decidable.not_not] at h1 h2
        unfold attrsErr at h1
        unfold linksErr at h2
        split at h1
        · cases h1
        · split at h2
          · cases h2
          · omega
end Go.Proofs.YtnddlpfmagdbfaaGreatDoor
/- Contract: the error of a trace. -/
namespace Go.Proofs.YtnddlpfmagdbfaaGreatDoor
open Go Go.Proofs Go.RowKit
set_option linter.unusedVariables false
set_option linter.unusedSimpArgs false
def memErr (id : Int) (x : SpanD) : Int := if spanErr x ≠ 0 then spanErr x else if x.trace ≠ id then 17 else 0
/-- What is asked of a trace's id and weight. -/
def traceOk (t : TraceD) : Prop := 1 ≤ t.id ∧ t.id ≤ 1099511627776 ∧ 1 ≤ t.weight ∧ t.weight ≤ 1024 ∧ Go.bits .and .i64 t.weight (t.weight - 1) = 0
instance (t : TraceD) : Decidable (traceOk t) := by unfold traceOk; infer_instance
def traceErr (t : TraceD) : Int := if traceOk t then firstErr (memErr t.id) t.spans else 2
set_option maxHeartbeats 8000000 in
set_option maxRecDepth 20000 in
theorem traceCheck_ok (t : TraceD) (w : World) (hok : traceOk t) (ht : t.Lies w) :
    Calls Tryz.prog 15 #[.agg t.cells.toArray] w fun e w' => e = .returned (.int .i64 (firstErr (memErr t.id) t.spans)) ∧ Below w.heap.size w w' := by
  have hBx := Lib.hid ((Below.refl _ w).alloc (Nat.le_refl _) (.cells t.cells.toArray 27))
  have hPB := Lib.hid (blk_new w t.cells.toArray 27)
  have HT := Lib.hid ht
  have hlen := ht.len
  clear ht
  obtain ⟨h1, h2, h3, h4, h5⟩ := hok
  obtain ⟨id, wt, A, c, L⟩ := t
  unfold TraceD.cells at hBx hPB ⊢
  simp only at h1 h2 h3 h4 h5 hlen hBx hPB ⊢
  have d1 : decide (id < 1) = false := decide_eq_false (by omega)
  have d2 : decide (1099511627776 < id) = false := decide_eq_false (by omega)
  have d3 : decide (wt < 1) = false := decide_eq_false (by omega)
  have d4 : decide (1024 < wt) = false := decide_eq_false (by omega)
  have d5 : IntKind.i64.wrap (wt - 1) = wt - 1 := IntWalk.i64_in _ (by omega)
  have d6 : (Go.bits .and .i64 wt (wt - 1) != 0) = false := by rw [h5]; rfl
  go_enter Tryz.func15, Tryz.ntmps15
  go_wp2_with fail
  go_loopw [4, 5, 36] (fun a b i wr => ∃ j : Nat, j ≤ L.length ∧ i = .int .i64 j ∧ Hid (∀ m (hm : m < j) (h : m < L.length), memErr id L[m] = 0) ∧ Hid (Below (w.alloc (.cells #[.int .i64 id, .int .i64 wt, .slice A L.length c] 27)).heap.size (w.alloc (.cells #[.int .i64 id, .int .i64 wt, .slice A L.length c] 27)) wr)) (fun _ _ i _ => L.length - (intOf i).toNat)
  case atStart => exact ⟨0, by omega, rfl, Lib.hid (fun m hm => by omega), Lib.hid (Below.refl _ _)⟩
  case round =>
    obtain ⟨j, hj, rfl, hG, hW⟩ := hrel
    have hK2 := Lib.hid (hBx.out.trans (hW.out.mono hBx.out.size))
    have hP2 := Lib.hid (blk_keep hW.out hPB.out)
    by_cases hlt : j < L.length
    · have hlt2 : decide (j < L.length) = true := decide_eq_true hlt
      obtain ⟨b, o, hA, hr⟩ := (HT.out.at_.below hK2.out) j hlt
      simp only at hA
      have hmem := List.getElem_mem hlt
      have hck := Lib.hid (fun W h => spanCheck_any L[j] W ((HT.out.held _ hmem).keeps W h) (HT.out.txt _ hmem))
      have hstep := Lib.hid (fun (h : memErr id L[j] = 0) m (hm : m < j + 1) (h' : m < L.length) => (by
        by_cases e : m = j
        · subst e; exact h
        · exact hG.out m (by omega) h' : memErr id L[m] = 0))
      have hfin : Hid (memErr id L[j] ≠ 0 → firstErr (memErr id) L = memErr id L[j]) := Lib.hid (fun h => firstErr_at (memErr id) L j hlt h (fun m hm => hG.out m hm (by omega)))
      subst hA
      have hme : Hid (memErr id L[j] = if spanErr L[j] ≠ 0 then spanErr L[j] else if L[j].trace ≠ id then 17 else 0) := Lib.hid rfl
      clear hmem
      generalize L[j] = x at *
      have f0 : wr.cell? ⟨b, o + j * 14, none⟩ = some (.int .i64 x.trace) := hr 0 _ rfl
      have f1 : wr.cell? ⟨b, o + j * 14 + 1, none⟩ = some (.int .i64 x.id) := hr 1 _ rfl
      have f2 : wr.cell? ⟨b, o + j * 14 + 2, none⟩ = some (.int .i64 x.parent) := hr 2 _ rfl
      have f3 : wr.cell? ⟨b, o + j * 14 + 3, none⟩ = some (.int .i64 x.rev) := hr 3 _ rfl
      have f4 : wr.cell? ⟨b, o + j * 14 + 4, none⟩ = some (.int .i64 x.clock) := hr 4 _ rfl
      have f5 : wr.cell? ⟨b, o + j * 14 + 5, none⟩ = some (.int .i64 x.kind) := hr 5 _ rfl
      have f6 : wr.cell? ⟨b, o + j * 14 + 6, none⟩ = some (.string x.svc) := hr 6 _ rfl
      have f7 : wr.cell? ⟨b, o + j * 14 + 7, none⟩ = some (.string x.ver) := hr 7 _ rfl
      have f8 : wr.cell? ⟨b, o + j * 14 + 8, none⟩ = some (.string x.op) := hr 8 _ rfl
      have f9 : wr.cell? ⟨b, o + j * 14 + 9, none⟩ = some (.int .i64 x.st) := hr 9 _ rfl
      have f10 : wr.cell? ⟨b, o + j * 14 + 10, none⟩ = some (.int .i64 x.en) := hr 10 _ rfl
      have f11 : wr.cell? ⟨b, o + j * 14 + 11, none⟩ = some (.bool x.err) := hr 11 _ rfl
      have f12 : wr.cell? ⟨b, o + j * 14 + 12, none⟩ = some (.slice x.aA x.attrs.length x.aC) := hr 12 _ rfl
      have f13 : wr.cell? ⟨b, o + j * 14 + 13, none⟩ = some (.slice x.lA x.links.length x.lC) := hr 13 _ rfl
      clear hr
      have hck := Lib.hid (hck.out (wr.alloc (.cells x.cells.toArray 73)) (hK2.out.alloc hK2.out.size _))
      have hRB := Lib.hid (blk_new wr x.cells.toArray 73)
      have hgr := Lib.hid (Grew.alloc wr (.cells x.cells.toArray 73)).b
      unfold SpanD.cells at hck hRB hgr
      generalize spanErr x = e at *
      by_cases he : e = 0
      · have he2 : (e != 0) = false := by rw [he]; rfl
        rw [if_neg (by simpa using he)] at hme
        clear he
        by_cases ht : x.trace = id
        · have ht2 : (x.trace != id) = false := by rw [ht]; simp
          have hz := Lib.hid (hstep.out (by rw [hme.out, if_neg (by simpa using ht)]))
          clear ht hfin hme
          go_wp2_with (first
            | (go_at_call 26; (with_reducible refine hck.out.mono ?_); rintro e' w3 ⟨rfl, hk⟩; have y0 : w3.cell? ⟨wr.heap.size, 0, none⟩ = some (.int .i64 x.trace) := cell_blk (blk_keep hk hRB.out) 0 rfl; have hk3 := Lib.hid (hW.out.trans ((hgr.out.trans (hk.mono hgr.out.size)).mono hW.out.size)); have y1 : w3.cell? ⟨w.heap.size, 0, none⟩ = some (.int .i64 id) := cell_blk (blk_keep hk3.out hPB.out) 0 rfl; clear hk))
          exact ⟨⟨j + 1, by omega, by go_num, hz, hk3⟩, by simp [intOf]; omega⟩
        · have ht2 : (x.trace != id) = true := by rw [bne_iff_ne]; exact ht
          have hz : Hid (firstErr (memErr id) L = 17) := Lib.hid (by rw [hfin.out (by rw [hme.out, if_pos ht]; decide), hme.out, if_pos ht])
          clear ht hfin hme
          go_wp2_with (first
            | (go_at_call 26; (with_reducible refine hck.out.mono ?_); rintro e' w3 ⟨rfl, hk⟩; have y0 : w3.cell? ⟨wr.heap.size, 0, none⟩ = some (.int .i64 x.trace) := cell_blk (blk_keep hk hRB.out) 0 rfl; have hk3 := Lib.hid (hW.out.trans ((hgr.out.trans (hk.mono hgr.out.size)).mono hW.out.size)); have y1 : w3.cell? ⟨w.heap.size, 0, none⟩ = some (.int .i64 id) := cell_blk (blk_keep hk3.out hPB.out) 0 rfl; clear hk))
          go_ret
          exact ⟨by rw [hz.out]; rfl, hBx.out.trans (hk3.out.mono hBx.out.size)⟩
      · have he2 : (e != 0) = true := by rw [bne_iff_ne]; exact he
        rw [if_pos (by simpa using he)] at hme
        have hz : Hid (firstErr (memErr id) L = e) := Lib.hid (by rw [hfin.out (by rw [hme.out]; exact he), hme.out])
        clear he hfin hme
        go_wp2_with (first
          | (go_at_call 26; (with_reducible refine hck.out.mono ?_); rintro e' w3 ⟨rfl, hk⟩; have hk3 := Lib.hid (hW.out.trans ((hgr.out.trans (hk.mono hgr.out.size)).mono hW.out.size)); clear hk))
        go_ret
        exact ⟨by rw [hz.out]; rfl, hBx.out.trans (hk3.out.mono hBx.out.size)⟩
    · have hj2 : j = L.length := by omega
      subst hj2
      have hlt2 : decide (L.length < L.length) = false := decide_eq_false hlt
      have hz : Hid (firstErr (memErr id) L = 0) := Lib.hid (firstErr_none _ _ (fun m hm => hG.out m hm hm))
      go_wp2_with fail
      go_ret
      exact ⟨by rw [hz.out]; rfl, hK2.out⟩
set_option maxHeartbeats 8000000 in
set_option maxRecDepth 20000 in
theorem traceCheck_bad (t : TraceD) (w : World) (hno : ¬ traceOk t) :
    Calls Tryz.prog 15 #[.agg t.cells.toArray] w fun e w' => e = .returned (.int .i64 2) ∧ Below w.heap.size w w' := by
  have hBx := Lib.hid ((Below.refl _ w).alloc (Nat.le_refl _) (.cells t.cells.toArray 27))
  have hno := Lib.hid hno
  obtain ⟨id, wt, A, c, L⟩ := t
  unfold TraceD.cells at hBx ⊢
  simp only at hBx ⊢
  by_cases hd1 : id < 1
  · have d1 : decide (id < 1) = true := decide_eq_true hd1
    go_enter Tryz.func15, Tryz.ntmps15
    go_wp2_with fail
    go_ret
    exact ⟨rfl, hBx.out⟩
  have d1 : decide (id < 1) = false := decide_eq_false hd1
  by_cases hd2 : 1099511627776 < id
  · have d2 : decide (1099511627776 < id) = true := decide_eq_true hd2
    go_enter Tryz.func15, Tryz.ntmps15
    go_wp2_with fail
    go_ret
    exact ⟨rfl, hBx.out⟩
  have d2 : decide (1099511627776 < id) = false := decide_eq_false hd2
  by_cases hd3 : wt < 1
  · have d3 : decide (wt < 1) = true := decide_eq_true hd3
    go_enter Tryz.func15, Tryz.ntmps15
    go_wp2_with fail
    go_ret
    exact ⟨rfl, hBx.out⟩
  have d3 : decide (wt < 1) = false := decide_eq_false hd3
  by_cases hd4 : 1024 < wt
  · have d4 : decide (1024 < wt) = true := decide_eq_true hd4
    go_enter Tryz.func15, Tryz.ntmps15
    go_wp2_with fail
    go_ret
    exact ⟨rfl, hBx.out⟩
  have d4 : decide (1024 < wt) = false := decide_eq_false hd4
  have d5 : IntKind.i64.wrap (wt - 1) = wt - 1 := IntWalk.i64_in _ (by omega)
  have d6 : (Go.bits .and .i64 wt (wt - 1) != 0) = true := by
    rw [bne_iff_ne]
    intro h
    exact hno.out ⟨by show 1 ≤ id; omega, by show id ≤ _; omega, by show 1 ≤ wt; omega, by show wt ≤ _; omega, h⟩
  go_enter Tryz.func15, Tryz.ntmps15
  go_wp2_with fail
  go_ret
  exact ⟨rfl, hBx.out⟩
theorem traceCheck_any (t : TraceD) (w : World) (ht : t.Lies w) :
    Calls Tryz.prog 15 #[.agg t.cells.toArray] w fun e w' => e = .returned (.int .i64 (traceErr t)) ∧ Below w.heap.size w w' := by
  unfold traceErr
  by_cases h : traceOk t
  · rw [if_pos h]; exact traceCheck_ok t w h ht
  · rw [if_neg h]; exact traceCheck_bad t w h
/-- The spans of a trace in order are in order, and of the trace. -/
theorem traceErr_zero {t : TraceD} (h : traceErr t = 0) : traceOk t ∧ ∀ x ∈ t.spans, spanErr x = 0 ∧ x.trace = t.id := by
  unfold traceErr at h
  split at h
  · rename_i h1
    refine ⟨h1, fun x hx => ?_⟩
    have := firstErr_zero h x hx
    unfold memErr at this
    split at this
    · contradiction
    · rename_i h2
      split at this
      · cases this
      · rename_i h3
        exact ⟨by simpa using h2, by simpa using h3⟩
  · cases h
theorem TraceD.Lies.held_ok {w : World} {t : TraceD} (h : t.Lies w) (k : traceErr t = 0) : t.Held w := h.toHeld fun x hx => spanErr_small ((traceErr_zero k).2 x hx).1
end Go.Proofs.YtnddlpfmagdbfaaGreatDoor
/- Contract: sampling.Exponent. -/
namespace Go.Proofs.YtnddlpfmagdbfaaGreatDoor
open Go Go.Proofs Go.RowKit
set_option linter.unusedVariables false
set_option linter.unusedSimpArgs false
/-- The exponent, and the error. -/
def exponentX (n : Nat) (p : PolD) (t : TraceD) : Int × Int := if polErr n p ≠ 0 then (0, polErr n p) else if traceErr t ≠ 0 then (0, traceErr t) else (givenX n p t, 0)
set_option maxHeartbeats 8000000 in
set_option maxRecDepth 20000 in
theorem exponent_any (n : Nat) (p : PolD) (t : TraceD) (w : World) (hp : p.Lies n w) (hstr : ∀ q ∈ p.rules, PredStr n q.p) (ht : t.Lies w) :
    Calls Tryz.prog 12 #[.agg p.cells.toArray, .agg t.cells.toArray] w fun e w' => e = .returned (.tuple #[.int .i64 (exponentX n p t).1, .int .i64 (exponentX n p t).2]) ∧ Below w.heap.size w w' := by
  have hB := Lib.hid (((Below.refl _ w).alloc (Nat.le_refl _) (.cells p.cells.toArray 24)).alloc (by simp) (.cells t.cells.toArray 27))
  have hPB := Lib.hid ((Grew.alloc (w.alloc (.cells p.cells.toArray 24)) (.cells t.cells.toArray 27)).blk (blk_new w p.cells.toArray 24))
  have hTB := Lib.hid (blk_new' (w.alloc (.cells p.cells.toArray 24)) t.cells.toArray 27 (w.heap.size + 1) (by simp))
  have hc1 := Lib.hid (fun W (h : Below w.heap.size w W) => polCheck_any n p W (hp.below h) hstr)
  have hc2 := Lib.hid (fun W (h : Below w.heap.size w W) => traceCheck_any t W (ht.below h))
  have hc3 := Lib.hid (fun (hp0 : polErr n p = 0) (h0 : traceErr t = 0) W (h : Below w.heap.size w W) => given_any n p t W ((hp.held_ok hp0).below h) ((ht.held_ok h0).below h))
  clear hp ht hstr
  unfold exponentX
  generalize polErr n p = e1 at *
  generalize traceErr t = e2 at *
  generalize givenX n p t = g at *
  unfold PolD.cells at hB hPB hTB hc1 hc3 ⊢
  unfold TraceD.cells at hB hPB hTB hc2 hc3 ⊢
  by_cases h1 : e1 = 0
  · have h1' : (e1 != 0) = false := by rw [h1]; rfl
    rw [if_neg (by simpa using h1)]
    have h1z := Lib.hid h1
    clear h1
    by_cases h2 : e2 = 0
    · have h2' : (e2 != 0) = false := by rw [h2]; rfl
      rw [if_neg (by simpa using h2)]
      have hc3 := Lib.hid (hc3.out h1z.out h2)
      clear h2
      go_enter Tryz.func12, Tryz.ntmps12
      go_wp2_with (first
        | (go_at_call 14; (with_reducible refine (hc1.out _ hB.out).mono ?_); rintro e w1 ⟨rfl, k1⟩; have b1 := Lib.hid (hB.out.trans (k1.mono hB.out.size)); have q1 := Lib.hid (blk_keep k1 hPB.out); have q2 := blk_keep k1 hTB.out; have t0 : w1.cell? ⟨w.heap.size + 1, 0, none⟩ = some (.int .i64 t.id) := cell_blk q2 0 rfl; have t1 : w1.cell? ⟨w.heap.size + 1, 1, none⟩ = some (.int .i64 t.weight) := cell_blk q2 1 rfl; have t2 : w1.cell? ⟨w.heap.size + 1, 2, none⟩ = some (.slice t.A t.spans.length t.c) := cell_blk q2 2 rfl; have q2 := Lib.hid q2; clear k1)
        | (go_at_call 15; (with_reducible refine (hc2.out _ b1.out).mono ?_); rintro e w2 ⟨rfl, k2⟩; have b2 := Lib.hid (b1.out.trans (k2.mono b1.out.size)); have r1 := blk_keep k2 q1.out; have r2 := blk_keep k2 q2.out; have s0 : w2.cell? ⟨w.heap.size + 1, 0, none⟩ = some (.int .i64 t.id) := cell_blk r2 0 rfl; have s1 : w2.cell? ⟨w.heap.size + 1, 1, none⟩ = some (.int .i64 t.weight) := cell_blk r2 1 rfl; have s2 : w2.cell? ⟨w.heap.size + 1, 2, none⟩ = some (.slice t.A t.spans.length t.c) := cell_blk r2 2 rfl; have u0 : w2.cell? ⟨w.heap.size, 0, none⟩ = some (.slice p.A p.rules.length p.c) := cell_blk r1 0 rfl; have u1 : w2.cell? ⟨w.heap.size, 1, none⟩ = some (.int .i64 p.d) := cell_blk r1 1 rfl; clear r1 r2 k2 t0 t1 t2)
        | (go_at_call 27; (with_reducible refine (hc3.out _ b2.out).mono ?_); rintro e w3 ⟨rfl, k3⟩; have b3 := Lib.hid (b2.out.trans (k3.mono b2.out.size)); clear k3))
      go_ret2
      exact ⟨rfl, b3.out⟩
    · have h2' : (e2 != 0) = true := by rw [bne_iff_ne]; exact h2
      rw [if_pos (by simpa using h2)]
      clear h2
      go_enter Tryz.func12, Tryz.ntmps12
      go_wp2_with (first
        | (go_at_call 14; (with_reducible refine (hc1.out _ hB.out).mono ?_); rintro e w1 ⟨rfl, k1⟩; have b1 := Lib.hid (hB.out.trans (k1.mono hB.out.size)); have q2 := blk_keep k1 hTB.out; have t0 : w1.cell? ⟨w.heap.size + 1, 0, none⟩ = some (.int .i64 t.id) := cell_blk q2 0 rfl; have t1 : w1.cell? ⟨w.heap.size + 1, 1, none⟩ = some (.int .i64 t.weight) := cell_blk q2 1 rfl; have t2 : w1.cell? ⟨w.heap.size + 1, 2, none⟩ = some (.slice t.A t.spans.length t.c) := cell_blk q2 2 rfl; have q2 := Lib.hid q2; clear k1)
        | (go_at_call 15; (with_reducible refine (hc2.out _ b1.out).mono ?_); rintro e w2 ⟨rfl, k2⟩; have b2 := Lib.hid (b1.out.trans (k2.mono b1.out.size)); clear k2))
      go_ret2
      exact ⟨rfl, b2.out⟩
  · have h1' : (e1 != 0) = true := by rw [bne_iff_ne]; exact h1
    rw [if_pos (by simpa using h1)]
    clear h1
    go_enter Tryz.func12, Tryz.ntmps12
    go_wp2_with (first
      | (go_at_call 14; (with_reducible refine (hc1.out _ hB.out).mono ?_); rintro e w1 ⟨rfl, k1⟩; have b1 := Lib.hid (hB.out.trans (k1.mono hB.out.size)); clear k1))
    go_ret2
    exact ⟨rfl, b1.out⟩
end Go.Proofs.YtnddlpfmagdbfaaGreatDoor
/- Contract: a trace copied, with another weight. -/
namespace Go.Proofs.YtnddlpfmagdbfaaGreatDoor
open Go Go.Proofs Go.RowKit
set_option linter.unusedVariables false
set_option linter.unusedSimpArgs false
theorem SpansIn.flat {W : World} {b o : Nat} {L : List SpanD} (h : SpansIn W (some ⟨b, o, none⟩) L) : ∀ m u, (cellsX L)[m]? = some u → W.cell? ⟨b, o + m, none⟩ = some u := fun m u hu => by
  obtain ⟨h1, h2, h3⟩ := flat_at (k := 14) (f := SpanD.cells) cells_length hu
  obtain ⟨b', o', e, hr⟩ := h _ h1
  cases e
  have := hr (m % 14) u h3
  rwa [Nat.add_assoc, Nat.mul_comm (m / 14) 14, Nat.div_add_mod] at this
/-- A trace is being copied: j spans have been done. -/
structure CopyS (lo : Nat) (w W : World) (id wt : Int) (p g cap : Nat) (L M : List SpanD) (j : Nat) : Prop where
  len : M.length = L.length
  bp : W.heap[p]? = some (.cells #[.int .i64 id, .int .i64 wt, .slice (some ⟨g, 0, none⟩) L.length cap] 27 (0, 0))
  bg : ∃ cur, W.heap[g]? = some (.cells cur 73 (0, 0)) ∧ cur.size = cap * 14 ∧ L.length ≤ cap ∧ cur.toList.take (L.length * 14) = cellsX M
  own : ∀ m (hm : m < M.length), m < j → M[m].Owned lo W ∧ (∀ q, M[m].aA = some q → q.block ≠ g ∧ q.block ≠ p) ∧ (∀ q, M[m].lA = some q → q.block ≠ g ∧ q.block ≠ p)
  bare : M.map SpanD.bare = L.map SpanD.bare
  rest : ∀ m (hm : m < M.length), j ≤ m → M[m]? = L[m]?
  lp : lo ≤ p
  lg : lo ≤ g
  ne : g ≠ p
  b : Below lo w W
/-- The trace has been made, its spans are those of a new row. -/
structure CopyB (w W : World) (id wt : Int) (p : Nat) (A : Option Addr) (c : Nat) (L : List SpanD) : Prop where
  bp : W.heap[p]? = some (.cells #[.int .i64 id, .int .i64 wt, .slice A L.length c] 27 (0, 0))
  row : W.ownsRow w.heap.size 73 14 (.slice A L.length c) L.length (cellsX L)
  lp : w.heap.size ≤ p
  at_ : ∀ q, A = some q → q.spot = none ∧ w.heap.size ≤ q.block ∧ q.block < W.heap.size ∧ q.block ≠ p
  b : Below w.heap.size w W
theorem cellsX_set (A : Option Addr) (c : Nat) (B : Option Addr) (d : Nat) : ∀ (M : List SpanD) (j : Nat) (hj : j < M.length), ((cellsX M).set (j * 14 + 12) (.slice A M[j].attrs.length c)).set (j * 14 + 13) (.slice B M[j].links.length d) = cellsX (M.set j (M[j].moved A c B d))
  | y :: l, 0, _ => by
    show ((y.cells ++ cellsX l).set _ _).set _ _ = (y.moved A c B d).cells ++ cellsX l
    rw [List.set_append_left _ _ (by rw [cells_length]; omega), List.set_append_left _ _ (by rw [List.length_set, cells_length]; omega)]
    rfl
  | y :: l, j + 1, hj => by
    have hj' : j < l.length := by simpa using hj
    show ((y.cells ++ cellsX l).set _ _).set _ _ = y.cells ++ cellsX (l.set j (l[j].moved A c B d))
    rw [List.set_append_right _ _ (by rw [cells_length]; omega), List.set_append_right _ _ (by rw [cells_length]; omega), ← cellsX_set A c B d l j hj', cells_length]
    rw [show (j + 1) * 14 + 12 - 14 = j * 14 + 12 by omega, show (j + 1) * 14 + 13 - 14 = j * 14 + 13 by omega]
    rfl
theorem CopyS.cell {lo : Nat} {w W : World} {id wt : Int} {p g cap : Nat} {L M : List SpanD} {j : Nat} (h : CopyS lo w W id wt p g cap L M j) (hj : j < M.length) {k : Nat} {v : Value} (hv : M[j].cells[k]? = some v) : W.cell? ⟨g, j * 14 + k, none⟩ = some v := by
  obtain ⟨cur, h1, h2, h3, h4⟩ := h.bg
  have hk : k < 14 := by
    have := (List.getElem?_eq_some_iff.1 hv).1
    rwa [cells_length] at this
  have h5 : (cellsX M)[j * 14 + k]? = some v := (cellsX_get hj hk).trans hv
  have := h.len
  rw [← h4, List.getElem?_take_of_lt (by omega)] at h5
  exact cell_blk h1 _ (by rw [← Array.getElem?_toList]; exact h5)
theorem CopyS.step {lo : Nat} {w W w1 w2 : World} {id wt : Int} {p g cap : Nat} {L M : List SpanD} {j : Nat} {A B : Option Addr} {c d : Nat} (h : CopyS lo w W id wt p g cap L M j) (hj : j < M.length) (hg : g < W.heap.size) (hp : p < W.heap.size) (hlo : lo ≤ W.heap.size) (hso : M[j].attrs.length ≤ 1000 ∧ M[j].links.length ≤ 1000)
    (b1 : Below W.heap.size W w1) (hA : AttrsAt w1 A M[j].attrs ∧ (A = none → M[j].attrs = []) ∧ ∀ q, A = some q → q.spot = none ∧ W.heap.size ≤ q.block ∧ q.block < w1.heap.size)
    (b2 : Below w1.heap.size (w1.setCell ⟨g, j * 14 + 12, none⟩ (.slice A M[j].attrs.length c)) w2) (hB : RefsAt w2 B M[j].links ∧ (B = none → M[j].links = []) ∧ ∀ q, B = some q → q.spot = none ∧ w1.heap.size ≤ q.block ∧ q.block < w2.heap.size) :
    CopyS lo w (w2.setCell ⟨g, j * 14 + 13, none⟩ (.slice B M[j].links.length d)) id wt p g cap L (M.set j (M[j].moved A c B d)) (j + 1) := by
  have hs1 := b1.size
  have hs2 : w1.heap.size ≤ w2.heap.size := by have := b2.size; simpa using this
  have blk : ∀ k o, k ≠ g → W.heap[k]? = some o → (w2.setCell ⟨g, j * 14 + 13, none⟩ (.slice B M[j].links.length d)).heap[k]? = some o := fun k o hk ho => by
    have h1 := blk_lt ho
    rw [heap_setCell_other _ _ _ _ hk, b2.block k (by omega), heap_setCell_other _ _ _ _ hk, b1.block k h1]
    exact ho
  have bl : Below lo w (w2.setCell ⟨g, j * 14 + 13, none⟩ (.slice B M[j].links.length d)) := by
    have h1 : Below lo w w1 := h.b.trans (b1.mono hlo)
    exact ((h1.setCell (p := ⟨g, j * 14 + 12, none⟩) h.lg _).trans (b2.mono (by omega))).setCell (p := ⟨g, j * 14 + 13, none⟩) h.lg _
  refine ⟨by rw [List.length_set]; exact h.len, blk p _ (Ne.symm h.ne) h.bp, ?_, fun m hm hmj => ?_, ?_, fun m hm hmj => ?_, h.lp, h.lg, h.ne, bl⟩
  · obtain ⟨cur, h1, h2, h3, h4⟩ := h.bg
    have e1 := heap_setCell_same _ g (j * 14 + 12) _ 73 (.slice A M[j].attrs.length c) (blk_keep b1 h1)
    have e2 := heap_setCell_same _ g (j * 14 + 13) _ 73 (.slice B M[j].links.length d) ((b2.block g (by omega)).trans e1)
    refine ⟨_, e2, by simpa using h2, h3, ?_⟩
    rw [← cellsX_set A c B d M j hj, ← h4]
    simp only [Array.toList_setIfInBounds, List.take_set]
  · have key : ∀ (x : SpanD), x.Owned lo W → (∀ q, x.aA = some q → q.block ≠ g ∧ q.block ≠ p) → (∀ q, x.lA = some q → q.block ≠ g ∧ q.block ≠ p) → x.Owned lo (w2.setCell ⟨g, j * 14 + 13, none⟩ (.slice B M[j].links.length d)) := fun x ho ha hl => by
      refine ⟨⟨ho.held.attrs.same fun q hq => ?_, ho.held.links.same fun q hq => ?_, ho.held.na, ho.held.nl⟩, ho.sound, fun q hq => ⟨(ho.a q hq).1, ?_⟩, fun q hq => ⟨(ho.l q hq).1, ?_⟩⟩
      · have h1 := (ho.a q hq).2
        rw [heap_setCell_other _ _ _ _ (ha q hq).1, b2.block _ (by omega), heap_setCell_other _ _ _ _ (ha q hq).1, b1.block _ h1]
      · have h1 := (ho.l q hq).2
        rw [heap_setCell_other _ _ _ _ (hl q hq).1, b2.block _ (by omega), heap_setCell_other _ _ _ _ (hl q hq).1, b1.block _ h1]
      · have h1 := (ho.a q hq).2
        simp; omega
      · have h1 := (ho.l q hq).2
        simp; omega
    have hm' : m < M.length := by simpa using hm
    by_cases e : m = j
    · subst e
      simp only [List.getElem_set_self]
      refine ⟨⟨⟨(attrs_below (hA.1.same (W' := w1.setCell ⟨g, m * 14 + 12, none⟩ (.slice A M[m].attrs.length c)) fun q hq => ?_) (b2.mono (by simp))).same fun q hq => ?_, hB.1.same fun q hq => ?_, by have := hso.1; show M[m].attrs.length ≤ _; omega, by have := hso.2; show M[m].links.length ≤ _; omega⟩, ⟨hA.2.1, fun q hq _ => (hA.2.2 q hq).1, hB.2.1, fun q hq _ => (hB.2.2 q hq).1⟩, fun q hq => ?_, fun q hq => ?_⟩, fun q hq => ?_, fun q hq => ?_⟩
      · have := (hA.2.2 q hq).2; exact heap_setCell_other _ _ _ _ (by simp; omega)
      · have := (hA.2.2 q hq).2; exact heap_setCell_other _ _ _ _ (by simp; omega)
      · have := (hB.2.2 q hq).2; exact heap_setCell_other _ _ _ _ (by simp; omega)
      · have := (hA.2.2 q hq).2; refine ⟨by omega, ?_⟩; simp; omega
      · have := (hB.2.2 q hq).2; refine ⟨by omega, ?_⟩; simp; omega
      · have := (hA.2.2 q hq).2; omega
      · have := (hB.2.2 q hq).2; omega
    · have e' : (M.set j (M[j].moved A c B d))[m] = M[m] := List.getElem_set_ne (Ne.symm e) _
      rw [e']
      obtain ⟨o1, o2, o3⟩ := h.own m hm' (by omega)
      exact ⟨key _ o1 o2 o3, o2, o3⟩
  · rw [List.map_set, ← h.bare]
    show (M.map SpanD.bare).set j (M[j].bare) = _
    have e2 : M[j].bare = (M.map SpanD.bare)[j]'(by simpa using hj) := by simp
    rw [e2, List.set_getElem_self]
  · have hm' : m < M.length := by simpa using hm
    rw [List.getElem?_set_ne (by omega)]
    exact h.rest m hm' (by omega)
theorem CopyS.fin {lo : Nat} {w W W9 : World} {id wt : Int} {p g cap : Nat} {L M : List SpanD} (h : CopyS lo w W id wt p g cap L M L.length) (hk : ∀ k, lo ≤ k → W9.heap[k]? = W.heap[k]?) (hs : W.heap.size ≤ W9.heap.size) :
    SpansIn W9 (some ⟨g, 0, none⟩) M ∧ (∀ x ∈ M, x.Owned lo W9) ∧ g < W9.heap.size := by
  obtain ⟨cur, h1, h2, h3, h4⟩ := h.bg
  have h1' := (hk g h.lg).trans h1
  refine ⟨fun j hj => ⟨g, 0, rfl, fun k v hv => ?_⟩, fun x hx => ?_, blk_lt h1'⟩
  · have hk' : k < 14 := by
      have := (List.getElem?_eq_some_iff.1 hv).1
      rwa [cells_length] at this
    have h5 : (cellsX M)[j * 14 + k]? = some v := (cellsX_get hj hk').trans hv
    have := h.len
    rw [← h4, List.getElem?_take_of_lt (by omega)] at h5
    rw [Nat.zero_add]
    exact cell_blk h1' _ (by rw [← Array.getElem?_toList]; exact h5)
  · obtain ⟨m, hm, rfl⟩ := List.mem_iff_getElem.1 hx
    obtain ⟨o1, o2, o3⟩ := h.own m hm (by rw [← h.len]; exact hm)
    exact ⟨⟨o1.held.attrs.same fun q hq => hk _ (o1.a q hq).1, o1.held.links.same fun q hq => hk _ (o1.l q hq).1, o1.held.na, o1.held.nl⟩, o1.sound, fun q hq => ⟨(o1.a q hq).1, Nat.lt_of_lt_of_le (o1.a q hq).2 hs⟩, fun q hq => ⟨(o1.l q hq).1, Nat.lt_of_lt_of_le (o1.l q hq).2 hs⟩⟩
theorem row_same {W W' : World} {base : Nat} {e : TypeId} {size : Nat} {v : Value} {k : Nat} {xs : List Value} (h : W.ownsRow base e size v k xs) (hk : ∀ g, v.ownBlock = some g → W'.heap[g]? = W.heap[g]?) : W'.ownsRow base e size v k xs := by
  refine ⟨h.1, ?_⟩
  rcases h.2 with h0 | ⟨g, cap, cur, h1, h2, h3, h4⟩
  · exact .inl h0
  · subst h1
    exact .inr ⟨g, cap, cur, rfl, h2, (hk g rfl).trans h3, h4⟩
theorem copyB_1 {w w1 : World} {id wt : Int} {p base : Nat} {A : Option Addr} {c : Nat} {L : List SpanD} {a1 a2 a3 : Value} (hp : w1.heap[p]? = some (.cells #[a1, a2, a3] 27 (0, 0))) (hr : w1.ownsRow base 73 14 (.slice A L.length c) L.length (cellsX L)) (hat : ∀ q, A = some q → q.spot = none ∧ base ≤ q.block ∧ q.block < w1.heap.size) (hpb : p < base) (hlp : w.heap.size ≤ p) (hB : Below w.heap.size w w1) :
    CopyB w (((w1.setCell ⟨p, 0, none⟩ (.int .i64 id)).setCell ⟨p, 1, none⟩ (.int .i64 wt)).setCell ⟨p, 2, none⟩ (.slice A L.length c)) id wt p A c L := by
  refine ⟨heap_setCell_same _ _ 2 _ _ _ (heap_setCell_same _ _ 1 _ _ _ (heap_setCell_same _ _ 0 _ _ _ hp)), row_same (row_mono hr (by omega)) (fun g hg => ?_), hlp, fun q hq => ?_, ((hB.setCell (p := ⟨p, 0, none⟩) hlp _).setCell (p := ⟨p, 1, none⟩) hlp _).setCell (p := ⟨p, 2, none⟩) hlp _⟩
  · have h1 := (hr.lt g hg).1
    rw [heap_setCell_other _ _ _ _ (by simp; omega), heap_setCell_other _ _ _ _ (by simp; omega), heap_setCell_other _ _ _ _ (by simp; omega)]
  · have h1 := hat q hq
    exact ⟨h1.1, by omega, by simpa using h1.2.2, by omega⟩
theorem copyB_2 {w w1 : World} {id wt : Int} {base : Nat} {A : Option Addr} {c : Nat} {L : List SpanD} (hr : w1.ownsRow base 73 14 (.slice A L.length c) L.length (cellsX L)) (hat : ∀ q, A = some q → q.spot = none ∧ base ≤ q.block ∧ q.block < w1.heap.size) (hlp : w.heap.size ≤ base) (hB : Below w.heap.size w w1) :
    CopyB w (w1.alloc (.cells #[.int .i64 id, .int .i64 wt, .slice A L.length c] 27)) id wt w1.heap.size A c L := by
  refine ⟨blk_new _ _ _, row_keep (row_mono hr hlp) (Grew.alloc _ _).b, hB.size, fun q hq => ?_, hB.alloc hB.size _⟩
  have h1 := hat q hq
  exact ⟨h1.1, by omega, by have := h1.2.2; simp; omega, by omega⟩
set_option maxHeartbeats 8000000 in
set_option maxRecDepth 20000 in
theorem copyT_any (t : TraceD) (wt : Int) (w : World) (hI : SpansIn w t.A t.spans) (hA : t.A = none → t.spans = []) (hH : ∀ x ∈ t.spans, x.Held w) (hS : ∀ x ∈ t.spans, x.Sound ∧ x.attrs.length ≤ 1000 ∧ x.links.length ≤ 1000) (hn : t.spans.length ≤ 1000) :
    Calls Tryz.prog 30 #[.agg t.cells.toArray, .int .i64 wt] w fun e w' => ∃ A c M, e = .returned (.agg #[.int .i64 t.id, .int .i64 wt, .slice A t.spans.length c]) ∧ M.map SpanD.bare = t.spans.map SpanD.bare ∧ SpansIn w' A M ∧ (∀ x ∈ M, x.Owned w.heap.size w') ∧ (∀ q, A = some q → q.spot = none ∧ w.heap.size ≤ q.block ∧ q.block < w'.heap.size) ∧ Below w.heap.size w w' := by
  obtain ⟨W0, hW0⟩ : ∃ W0, W0 = (w.alloc (.cells t.cells.toArray 27)).alloc (.cells #[.int .i64 0, .int .i64 0, .slice none 0 0] 27) := ⟨_, rfl⟩
  have hB0 : Hid (Below w.heap.size w W0) := Lib.hid (by rw [hW0]; exact ((Below.refl _ w).alloc (Nat.le_refl _) _).alloc (by simp) _)
  have hbox : Hid (W0.heap[w.heap.size]? = some (.cells t.cells.toArray 27 (0, 0))) := Lib.hid (by rw [hW0]; exact (Grew.alloc _ _).blk (blk_new _ _ _))
  have hsz : w.heap.size + 1 < W0.heap.size := by rw [hW0]; simp
  have hrB : Hid (W0.heap[w.heap.size + 1]? = some (.cells #[.int .i64 0, .int .i64 0, .slice none 0 0] 27 (0, 0))) := Lib.hid (by rw [hW0]; exact blk_new' _ _ _ _ (by simp))
  have hc : Hid (∀ W, Below W0.heap.size W0 W → Calls Tryz.prog 52 #[.slice t.A t.spans.length t.c] W fun e w' => ∃ A' c', e = .returned (.slice A' t.spans.length c') ∧ w'.ownsRow W.heap.size 73 14 (.slice A' t.spans.length c') t.spans.length (cellsX t.spans) ∧ (∀ p, A' = some p → p.spot = none ∧ W.heap.size ≤ p.block ∧ p.block < w'.heap.size) ∧ (A' = none → t.spans.length = 0 ∧ c' = 0) ∧ Below W.heap.size W w') :=
    Lib.hid fun W hW => cloneX_any t.A t.spans.length t.c (cellsX t.spans) W (cellsX_length _) (fun h => by rw [hA h]; rfl) (fun q hq k u hu => by
      have h0 : 0 < t.spans.length := by
        have := (List.getElem?_eq_some_iff.1 hu).1
        rw [cellsX_length] at this
        omega
      obtain ⟨b, o, e, _⟩ := hI 0 h0
      obtain rfl := Option.some.inj (hq.symm.trans e)
      rw [Addr.add_mid]
      have h1 : SpansIn W (some ⟨b, o, none⟩) t.spans := by rw [← hq]; exact (hI.below hB0.out).below hW
      exact h1.flat k u hu) (cellsX_one _) hn
  have HH := Lib.hid hH
  have HS := Lib.hid hS
  clear hI hA hH hS
  unfold TraceD.cells at hW0 hbox ⊢
  go_enter Tryz.func30, Tryz.ntmps30
  go_upto_region 1 with fail
  rw [← hW0]
  go_cut [5] (fun s5 wx => ∃ p A1 c1, s5 = .pointer (some ⟨p, 0, none⟩) ∧ Hid (CopyB W0 wx t.id wt p A1 c1 t.spans))
  case first =>
    clear hW0
    have z0 : W0.cell? ⟨w.heap.size, 0, none⟩ = some (.int .i64 t.id) := cell_blk hbox.out 0 rfl
    have z2 : W0.cell? ⟨w.heap.size, 2, none⟩ = some (.slice t.A t.spans.length t.c) := cell_blk hbox.out 2 rfl
    have hne0 : w.heap.size ≠ W0.heap.size := by omega
    have hne1 : W0.heap.size ≠ w.heap.size := by omega
    have hlt0 : w.heap.size < W0.heap.size := by omega
    have bA : Hid (Below W0.heap.size W0 (W0.alloc (.cells #[.int .i64 0, .int .i64 0, .slice none 0 0] 27)).drew) := Lib.hid (((Below.refl _ W0).alloc (Nat.le_refl _) _).trans ((below_drew _).mono (by simp)))
    have xA := Lib.hid (blk_new W0 #[.int .i64 0, .int .i64 0, .slice none 0 0] 27)
    go_region_with (first
      | (go_at_call 52; (with_reducible refine (hc.out _ (below_drew _)).mono ?_); rintro e w1 ⟨A1, c1, rfl, hr1, hs1, hz1, hb1⟩; have HR1 := Lib.hid (And.intro hr1 hs1); have HB1 : Hid (Below W0.heap.size W0 w1) := Lib.hid ((below_drew W0).trans hb1); clear hr1 hs1 hz1 hb1; have hbox1 := Lib.hid (blk_keep HB1.out hbox.out); have y0 : w1.cell? ⟨w.heap.size, 0, none⟩ = some (.int .i64 t.id) := cell_blk hbox1.out 0 rfl; have hlt1 : w.heap.size < w1.heap.size := (by have := HB1.out.size; omega); have hne : w1.heap.size ≠ w.heap.size := (by omega); have hne' : w.heap.size ≠ w1.heap.size := (by omega); have hend := Lib.hid (copyB_2 (w := W0) (id := t.id) (wt := wt) HR1.out.1 HR1.out.2 (by simp) HB1.out); clear z0 z2)
      | (go_at_call 52; (with_reducible refine (hc.out _ bA.out).mono ?_); rintro e w1 ⟨A1, c1, rfl, hr1, hs1, hz1, hb1⟩; have HR1 := Lib.hid (And.intro hr1 hs1); have HB1 : Hid (Below W0.heap.size W0 w1) := Lib.hid (bA.out.trans (hb1.mono (by simp))); have hxA := blk_keep hb1 xA.out; have x0 := fun i => frozen_blk hxA i; have x1 : w1.cell? ⟨W0.heap.size, 0, none⟩ = some (.int .i64 0) := cell_blk hxA 0 rfl; have x2 : w1.cell? ⟨W0.heap.size, 1, none⟩ = some (.int .i64 0) := cell_blk hxA 1 rfl; have x3 : w1.cell? ⟨W0.heap.size, 2, none⟩ = some (.slice none 0 0) := cell_blk hxA 2 rfl; have hend := Lib.hid (copyB_1 (w := W0) (id := t.id) (wt := wt) hxA HR1.out.1 HR1.out.2 (by simp) (by omega) HB1.out); clear hxA hr1 hs1 hz1 hb1; have hbox1 := Lib.hid (blk_keep HB1.out hbox.out); have y0 : w1.cell? ⟨w.heap.size, 0, none⟩ = some (.int .i64 t.id) := cell_blk hbox1.out 0 rfl; clear z0 z2))
    all_goals (go_wp2_with fail; go_meet; exact ⟨_, A1, c1, rfl, hend⟩)
  case rest =>
    obtain ⟨p, A1, c1, rfl, hP⟩ := hcut
    have p2 : wc.cell? ⟨p, 2, none⟩ = some (.slice A1 t.spans.length c1) := cell_blk hP.out.bp 2 rfl
    rcases hP.out.row.2 with ⟨h0, h1⟩ | ⟨g, cap, cur, hv, hb, hg, h1, h2, h3, h4⟩
    · have hL0 : t.spans = [] := List.length_eq_zero_iff.1 h1
      have hA0 : A1 = none := by cases A1 <;> simp_all
      have d0 : wc.cell? ⟨p, 0, none⟩ = some (.int .i64 t.id) := cell_blk hP.out.bp 0 rfl
      have d1 : wc.cell? ⟨p, 1, none⟩ = some (.int .i64 wt) := cell_blk hP.out.bp 1 rfl
      have hr9 := blk_keep hP.out.b hrB.out
      have r0 : wc.cell? ⟨w.heap.size + 1, 0, none⟩ = some (.int .i64 0) := cell_blk hr9 0 rfl
      have r1 : wc.cell? ⟨w.heap.size + 1, 1, none⟩ = some (.int .i64 0) := cell_blk hr9 1 rfl
      have r2 : wc.cell? ⟨w.heap.size + 1, 2, none⟩ = some (.slice none 0 0) := cell_blk hr9 2 rfl
      have rf := fun i => frozen_blk hr9 i
      have hr9 := Lib.hid hr9
      have hL0 := Lib.hid hL0
      subst hA0
      clear h0
      have h1 := Lib.hid h1
      go_wp2_with fail
      go_loopw [6, 17] (fun a i wr => i = .int .i64 0 ∧ wr = wc) (fun _ _ _ => 0)
      case atStart => exact ⟨rfl, rfl⟩
      case round =>
        obtain ⟨rfl, rfl⟩ := hrel
        have hlt2 : decide ((0 : Int) < (t.spans.length : Int)) = false := decide_eq_false (by rw [h1.out]; decide)
        go_wp2_with fail
        have hres := heap_setCell_same _ _ 2 _ _ (.slice none 0 c1) (heap_setCell_same _ _ 1 _ _ (.int .i64 wt) (heap_setCell_same _ _ 0 _ _ (.int .i64 t.id) hr9.out))
        refine bodyPost_ret (results_cell_row rfl _ _ (w.heap.size + 1) _ _ (0, 0) _ rfl hres Tryz.underlying27 rfl (by kernel_rfl)) rfl ?_
        refine ⟨none, c1, [], by rw [h1.out]; rfl, by rw [hL0.out], fun j hj => absurd hj (Nat.not_lt_zero _), fun x hx => absurd hx List.not_mem_nil, (fun q hq => by cases hq), ?_⟩
        exact (((hB0.out.trans (hP.out.b.mono hB0.out.size)).setCell (p := ⟨w.heap.size + 1, 0, none⟩) (by simp) _).setCell (p := ⟨w.heap.size + 1, 1, none⟩) (by simp) _).setCell (p := ⟨w.heap.size + 1, 2, none⟩) (by simp) _
    · obtain ⟨rfl, rfl⟩ : A1 = some ⟨g, 0, none⟩ ∧ c1 = cap := by cases hv; exact ⟨rfl, rfl⟩
      have hgp : g ≠ p := (hP.out.at_ _ rfl).2.2.2
      have hb0 := Lib.hid hb
      have hS0 : Hid (CopyS W0.heap.size W0 wc t.id wt p g c1 t.spans t.spans 0) := Lib.hid ⟨rfl, hP.out.bp, ⟨cur, hg, h3, h1, h4⟩, fun m _ h => absurd h (Nat.not_lt_zero m), rfl, fun m _ _ => rfl, hP.out.lp, hb, hgp, hP.out.b⟩
      clear hv hb hg h1 h2 h3 h4 cur
      go_wp2_with fail
      go_loopw [6, 17] (fun a i wr => ∃ (j : Nat) (M : List SpanD), j ≤ t.spans.length ∧ i = .int .i64 j ∧ Hid (CopyS W0.heap.size W0 wr t.id wt p g c1 t.spans M j)) (fun _ i _ => t.spans.length - (intOf i).toNat)
      case atStart => exact ⟨0, _, by omega, rfl, hS0⟩
      case round =>
        obtain ⟨j, M, hj, rfl, hC⟩ := hrel
        by_cases hlt : j < t.spans.length
        · have hlt2 : decide (j < t.spans.length) = true := decide_eq_true hlt
          have hjm : j < M.length := by rw [hC.out.len]; exact hlt
          have hx : M[j] ∈ t.spans := by
            have h1 := hC.out.rest j hjm (Nat.le_refl _)
            rw [List.getElem?_eq_getElem hjm, List.getElem?_eq_getElem hlt] at h1
            rw [Option.some.inj h1]
            exact List.getElem_mem hlt
          have hSx := HS.out _ hx
          have hcA : Hid (∀ W, Below W0.heap.size W0 W → Calls Tryz.prog 53 #[.slice M[j].aA M[j].attrs.length M[j].aC] W fun e w' => ∃ A' c', e = .returned (.slice A' M[j].attrs.length c') ∧ AttrsAt w' A' M[j].attrs ∧ (A' = none → M[j].attrs = []) ∧ (∀ p, A' = some p → p.spot = none ∧ W.heap.size ≤ p.block ∧ p.block < w'.heap.size) ∧ Below W.heap.size W w') :=
            Lib.hid fun W hW => copyA_any _ _ _ W ((HH.out _ hx).keeps W (hB0.out.trans (hW.mono hB0.out.size))).attrs hSx.1.a hSx.1.b hSx.2.1
          have hcR : Hid (∀ W, Below W0.heap.size W0 W → Calls Tryz.prog 54 #[.slice M[j].lA M[j].links.length M[j].lC] W fun e w' => ∃ A' c', e = .returned (.slice A' M[j].links.length c') ∧ RefsAt w' A' M[j].links ∧ (A' = none → M[j].links = []) ∧ (∀ p, A' = some p → p.spot = none ∧ W.heap.size ≤ p.block ∧ p.block < w'.heap.size) ∧ Below W.heap.size W w') :=
            Lib.hid fun W hW => copyR_any _ _ _ W ((HH.out _ hx).keeps W (hB0.out.trans (hW.mono hB0.out.size))).links hSx.1.c hSx.1.d hSx.2.2
          have c2 : wr.cell? ⟨p, 2, none⟩ = some (.slice (some ⟨g, 0, none⟩) t.spans.length c1) := cell_blk hC.out.bp 2 rfl
          have c12 : wr.cell? ⟨g, j * 14 + 12, none⟩ = some (.slice M[j].aA M[j].attrs.length M[j].aC) := hC.out.cell hjm rfl
          have c13 : wr.cell? ⟨g, j * 14 + 13, none⟩ = some (.slice M[j].lA M[j].links.length M[j].lC) := hC.out.cell hjm rfl
          have hstep := Lib.hid (fun (A B : Option Addr) (c d : Nat) (w1 w2 : World) h1 h2 h3 h4 h5 h6 h7 => hC.out.step (A := A) (B := B) (c := c) (d := d) (w1 := w1) (w2 := w2) hjm h1 h2 h3 hSx.2 h4 h5 h6 h7)
          obtain ⟨cur, hcur, hcs, _, _⟩ := hC.out.bg
          have hgB := Lib.hid hcur
          have hpB := Lib.hid hC.out.bp
          have hgs := blk_lt hcur
          have hps := blk_lt hC.out.bp
          clear hcur
          have hBw : Hid (Below W0.heap.size W0 wr) := Lib.hid hC.out.b
          generalize M[j] = x at *
          go_wp2_with fail
          go_region_with (first
            | (go_at_call 53; (with_reducible refine (hcA.out _ (hBw.out.trans ((below_drew wr).mono hBw.out.size))).mono ?_); rintro e w1 ⟨A1, c1', rfl, hr1, hz1, hs1, hb1⟩; have HA1 := Lib.hid (And.intro hr1 (And.intro hz1 hs1)); have HB1 : Hid (Below wr.heap.size wr w1) := Lib.hid ((below_drew wr).trans hb1); clear hr1 hz1 hs1 hb1; have y12 : w1.cell? ⟨g, j * 14 + 12, none⟩ = some (.slice x.aA x.attrs.length x.aC) := (HB1.out.cell (p := ⟨g, j * 14 + 12, none⟩) hgs).trans c12; have y2 : w1.cell? ⟨p, 2, none⟩ = some (.slice (some ⟨g, 0, none⟩) t.spans.length c1) := (HB1.out.cell (p := ⟨p, 2, none⟩) hps).trans c2; have yf : w1.frozen? ⟨g, j * 14 + 12, none⟩ = false := frozen_blk (blk_keep HB1.out hgB.out) _))
          all_goals
            have hne : p ≠ g := Ne.symm hgp
            have e1 := heap_setCell_same w1 g (j * 14 + 12) _ 73 (.slice A1 x.attrs.length c1') (blk_keep HB1.out hgB.out)
            have e2 := (heap_setCell_other w1 ⟨g, j * 14 + 12, none⟩ p (.slice A1 x.attrs.length c1') hne).trans (blk_keep HB1.out hpB.out)
            have k2 : (w1.setCell ⟨g, j * 14 + 12, none⟩ (.slice A1 x.attrs.length c1')).cell? ⟨p, 2, none⟩ = some (.slice (some ⟨g, 0, none⟩) t.spans.length c1) := cell_blk e2 2 rfl
            have k13 : (w1.setCell ⟨g, j * 14 + 12, none⟩ (.slice A1 x.attrs.length c1')).cell? ⟨g, j * 14 + 13, none⟩ = some (.slice x.lA x.links.length x.lC) := by
              exact (World.cell?_setCell_other w1 _ _ _ (by simp)).trans ((HB1.out.cell (p := ⟨g, j * 14 + 13, none⟩) hgs).trans c13)
            have hb5 : Hid (Below W0.heap.size W0 (w1.setCell ⟨g, j * 14 + 12, none⟩ (.slice A1 x.attrs.length c1'))) := Lib.hid ((hBw.out.trans (HB1.out.mono hBw.out.size)).setCell (p := ⟨g, j * 14 + 12, none⟩) hb0.out _)
            have hs5 : (w1.setCell ⟨g, j * 14 + 12, none⟩ (.slice A1 x.attrs.length c1')).heap.size = w1.heap.size := by simp
            have hst := Lib.hid (fun B d w2 h6 h7 => hstep.out A1 B c1' d w1 w2 hgs hps hBw.out.size HB1.out HA1.out h6 h7)
            have hg5 := Lib.hid e1
            have hp5 := Lib.hid e2
            have hgs5 : g < w1.heap.size := Nat.lt_of_lt_of_le hgs HB1.out.size
            have hps5 : p < w1.heap.size := Nat.lt_of_lt_of_le hps HB1.out.size
            clear e1 e2 y12 y2 yf c2 c12 c13
            generalize w1.setCell ⟨g, j * 14 + 12, none⟩ (.slice A1 x.attrs.length c1') = w5 at *
            have hs5 := Lib.hid hs5
            go_wp2_with fail
            go_region_with (first
              | (go_at_call 54; (with_reducible refine (hcR.out _ (hb5.out.trans ((below_drew w5).mono hb5.out.size))).mono ?_); rintro e w2 ⟨A2, c2', rfl, hr1, hz1, hs1, hb1⟩; have HA2 := Lib.hid (And.intro hr1 (And.intro hz1 hs1)); have HB2 : Hid (Below w5.heap.size w5 w2) := Lib.hid ((below_drew w5).trans hb1); clear hr1 hz1 hs1 hb1; have x2 : w2.cell? ⟨p, 2, none⟩ = some (.slice (some ⟨g, 0, none⟩) t.spans.length c1) := (HB2.out.cell (p := ⟨p, 2, none⟩) (by rw [hs5.out]; exact hps5)).trans k2; have x13 : w2.cell? ⟨g, j * 14 + 13, none⟩ = some (.slice x.lA x.links.length x.lC) := (HB2.out.cell (p := ⟨g, j * 14 + 13, none⟩) (by rw [hs5.out]; exact hgs5)).trans k13; have xf : w2.frozen? ⟨g, j * 14 + 13, none⟩ = false := frozen_blk (blk_keep HB2.out hg5.out) _))
            all_goals
              have hend := Lib.hid (hst.out A2 c2' w2 (by rw [← hs5.out]; exact HB2.out) (by have h1 := HA2.out; simp only [World.size_drew, hs5.out] at h1; exact h1))
              clear x2 x13 xf
              go_wp2_with fail
              exact ⟨⟨j + 1, _, by omega, by go_num, hend⟩, by simp [intOf]; omega⟩
        · have hj2 : j = t.spans.length := by omega
          subst hj2
          have hlt2 : decide (t.spans.length < t.spans.length) = false := decide_eq_false hlt
          have d0 : wr.cell? ⟨p, 0, none⟩ = some (.int .i64 t.id) := cell_blk hC.out.bp 0 rfl
          have d1 : wr.cell? ⟨p, 1, none⟩ = some (.int .i64 wt) := cell_blk hC.out.bp 1 rfl
          have d2 : wr.cell? ⟨p, 2, none⟩ = some (.slice (some ⟨g, 0, none⟩) t.spans.length c1) := cell_blk hC.out.bp 2 rfl
          have hr9 := blk_keep hC.out.b hrB.out
          have r0 : wr.cell? ⟨w.heap.size + 1, 0, none⟩ = some (.int .i64 0) := cell_blk hr9 0 rfl
          have r1 : wr.cell? ⟨w.heap.size + 1, 1, none⟩ = some (.int .i64 0) := cell_blk hr9 1 rfl
          have r2 : wr.cell? ⟨w.heap.size + 1, 2, none⟩ = some (.slice none 0 0) := cell_blk hr9 2 rfl
          have rf := fun i => frozen_blk hr9 i
          have hr9 := Lib.hid hr9
          go_wp2_with fail
          have hres := heap_setCell_same _ _ 2 _ _ (.slice (some ⟨g, 0, none⟩) t.spans.length c1) (heap_setCell_same _ _ 1 _ _ (.int .i64 wt) (heap_setCell_same _ _ 0 _ _ (.int .i64 t.id) hr9.out))
          have hfin := hC.out.fin (W9 := ((wr.setCell ⟨w.heap.size + 1, 0, none⟩ (.int .i64 t.id)).setCell ⟨w.heap.size + 1, 1, none⟩ (.int .i64 wt)).setCell ⟨w.heap.size + 1, 2, none⟩ (.slice (some ⟨g, 0, none⟩) t.spans.length c1)) (fun k hk => by rw [heap_setCell_other _ _ _ _ (by simp; omega), heap_setCell_other _ _ _ _ (by simp; omega), heap_setCell_other _ _ _ _ (by simp; omega)]) (by simp)
          refine bodyPost_ret (results_cell_row rfl _ _ (w.heap.size + 1) _ _ (0, 0) _ rfl hres Tryz.underlying27 rfl (by kernel_rfl)) rfl ?_
          refine ⟨_, c1, M, rfl, hC.out.bare, hfin.1, fun x hx => (hfin.2.1 x hx).mono (by omega), fun q hq => by cases hq; exact ⟨rfl, by have := hb0.out; show _ ≤ g; omega, hfin.2.2⟩, ?_⟩
          exact (((hB0.out.trans (hC.out.b.mono hB0.out.size)).setCell (p := ⟨w.heap.size + 1, 0, none⟩) (by simp) _).setCell (p := ⟨w.heap.size + 1, 1, none⟩) (by simp) _).setCell (p := ⟨w.heap.size + 1, 2, none⟩) (by simp) _
end Go.Proofs.YtnddlpfmagdbfaaGreatDoor
/- The model's operations on words of 32 and 64 bits, said of Lean's words. No conditions. -/
namespace Go.Proofs.YtnddlpfmagdbfaaGreatDoor
open Go.RowKit

theorem wrap_u64 (n : Int) : IntKind.u64.wrap n = n % 18446744073709551616 := by simp [IntKind.wrap, IntKind.bits, IntKind.signed]

/-- A word as the number that the model holds. -/
def n32 (x : BitVec 32) : Int := (x.toNat : Int)
def n64 (x : BitVec 64) : Int := (x.toNat : Int)

theorem n32_lt (x : BitVec 32) : 0 ≤ n32 x ∧ n32 x < 4294967296 := by unfold n32; have := x.isLt; omega
theorem n64_lt (x : BitVec 64) : 0 ≤ n64 x ∧ n64 x < 18446744073709551616 := by unfold n64; have := x.isLt; omega
theorem n32_inj {x y : BitVec 32} (h : n32 x = n32 y) : x = y := by unfold n32 at h; exact BitVec.eq_of_toNat_eq (by omega)
theorem n64_inj {x y : BitVec 64} (h : n64 x = n64 y) : x = y := by unfold n64 at h; exact BitVec.eq_of_toNat_eq (by omega)
theorem n32_beq (x y : BitVec 32) : (n32 x == n32 y) = (x == y) := by
  rw [Bool.eq_iff_iff]; simp; exact ⟨n32_inj, fun h => by rw [h]⟩
theorem n64_beq (x y : BitVec 64) : (n64 x == n64 y) = (x == y) := by
  rw [Bool.eq_iff_iff]; simp; exact ⟨n64_inj, fun h => by rw [h]⟩
theorem n32_of {n : Int} (h0 : 0 ≤ n) (h1 : n < 4294967296) : n = n32 (BitVec.ofNat 32 n.toNat) := by
  unfold n32; rw [BitVec.toNat_ofNat]; omega
theorem n64_of {n : Int} (h0 : 0 ≤ n) (h1 : n < 18446744073709551616) : n = n64 (BitVec.ofNat 64 n.toNat) := by
  unfold n64; rw [BitVec.toNat_ofNat]; omega

theorem wrap32_n (x : BitVec 32) : IntKind.u32.wrap (n32 x) = n32 x := by
  rw [IntKind.wrap_u32]; have := n32_lt x; omega
theorem wrap64_n (x : BitVec 64) : IntKind.u64.wrap (n64 x) = n64 x := by
  rw [wrap_u64]; have := n64_lt x; omega

theorem ofInt32 (x : BitVec 32) : BitVec.ofInt IntKind.u32.bits (n32 x) = x := by
  apply BitVec.eq_of_toNat_eq
  simp [n32, IntKind.bits]
theorem ofInt64 (x : BitVec 64) : BitVec.ofInt IntKind.u64.bits (n64 x) = x := by
  apply BitVec.eq_of_toNat_eq
  simp [n64, IntKind.bits]

theorem xor32 (x y : BitVec 32) : Go.bits .xor .u32 (n32 x) (n32 y) = n32 (x ^^^ y) := by
  unfold Go.bits
  simp only [ofInt32]
  exact wrap32_n _
theorem and32 (x y : BitVec 32) : Go.bits .and .u32 (n32 x) (n32 y) = n32 (x &&& y) := by
  unfold Go.bits
  simp only [ofInt32]
  exact wrap32_n _
theorem xor64 (x y : BitVec 64) : Go.bits .xor .u64 (n64 x) (n64 y) = n64 (x ^^^ y) := by
  unfold Go.bits
  simp only [ofInt64]
  exact wrap64_n _
theorem not32 (x : BitVec 32) : Go.bits .xor .u32 4294967295 (n32 x) = n32 (~~~ x) := by
  have h : (4294967295 : Int) = n32 (BitVec.allOnes 32) := by decide
  rw [h, xor32, ← BitVec.not_def]
theorem shr32 (x : BitVec 32) (k : Nat) : n32 x / 2 ^ k = n32 (x >>> k) := by
  unfold n32
  rw [BitVec.toNat_ushiftRight, Nat.shiftRight_eq_div_pow]; simp
theorem shr64 (x : BitVec 64) (k : Nat) : n64 x / 2 ^ k = n64 (x >>> k) := by
  unfold n64
  rw [BitVec.toNat_ushiftRight, Nat.shiftRight_eq_div_pow]; simp
theorem mul64 (x y : BitVec 64) : IntKind.u64.wrap (n64 x * n64 y) = n64 (x * y) := by
  unfold n64
  rw [wrap_u64, BitVec.toNat_mul]; simp
theorem add64 (x y : BitVec 64) : IntKind.u64.wrap (n64 x + n64 y) = n64 (x + y) := by
  unfold n64
  rw [wrap_u64, BitVec.toNat_add]; simp
theorem sub64 (x y : BitVec 64) : IntKind.u64.wrap (n64 x - n64 y) = n64 (x - y) := by
  unfold n64
  rw [wrap_u64, BitVec.toNat_sub]; have := x.isLt; have := y.isLt; omega
theorem bit32 (x : BitVec 32) : Go.bits .and .u32 (n32 x) 1 = if x.getLsbD 0 then 1 else 0 := by
  have h : (1 : Int) = n32 1#32 := by decide
  rw [h, and32]
  have e : x &&& 1#32 = if x.getLsbD 0 then 1#32 else 0#32 := by
    apply BitVec.eq_of_getLsbD_eq
    intro i hi
    rw [BitVec.getLsbD_and]
    cases i with
    | zero => cases x.getLsbD 0 <;> simp
    | succ i =>
      have : (1#32).getLsbD (i + 1) = false := by simp [BitVec.getLsbD_one]
      rw [this]
      cases x.getLsbD 0 <;> simp
  rw [e]
  cases x.getLsbD 0 <;> decide

end Go.Proofs.YtnddlpfmagdbfaaGreatDoor
/- Contracts: the mixed word, the hash of a trace, what is kept, the weights. -/
namespace Go.Proofs.YtnddlpfmagdbfaaGreatDoor
open Go.RowKit
set_option linter.unusedVariables false
set_option linter.unusedSimpArgs false

namespace Crc
def c1 : BitVec 64 := 0x9e3779b97f4a7c15#64
def c2 : BitVec 64 := 0xbf58476d1ce4e5b9#64
def c3 : BitVec 64 := 0x94d049bb133111eb#64
def mixa (k : Nat) (z : BitVec 64) : BitVec 64 := z ^^^ (z >>> k)
def word (s n : BitVec 64) : BitVec 64 := mixa 31 (mixa 27 (mixa 30 (s * c1 + n) * c2) * c3)
end Crc
theorem k1 (x : BitVec 64) : IntKind.u64.wrap (n64 x * 11400714819323198485) = n64 (x * Crc.c1) := by rw [← mul64]; rfl
theorem k2 (x : BitVec 64) : IntKind.u64.wrap (n64 x * 13787848793156543929) = n64 (x * Crc.c2) := by rw [← mul64]; rfl
theorem k3 (x : BitVec 64) : IntKind.u64.wrap (n64 x * 10723151780598845931) = n64 (x * Crc.c3) := by rw [← mul64]; rfl
theorem s30 (x : BitVec 64) : n64 x / (1073741824 : Int) = n64 (x >>> 30) := by rw [← shr64]; rfl
theorem s27 (x : BitVec 64) : n64 x / (134217728 : Int) = n64 (x >>> 27) := by rw [← shr64]; rfl
theorem s31 (x : BitVec 64) : n64 x / (2147483648 : Int) = n64 (x >>> 31) := by rw [← shr64]; rfl

theorem ret64 {a b : Int} (h : a = b) : Ending.returned (.int .u64 a) = .returned (.int .u64 b) := by rw [h]
theorem word_any (a b : Int) (x y : BitVec 64) (ha : a = n64 x) (hb : b = n64 y) (w : World) :
    Calls Tryz.prog 78 #[.int .u64 a, .int .u64 b] w fun e w' => e = .returned (.int .u64 (n64 (Crc.word x y))) ∧ w = w' := by
  subst ha hb
  go_enter Tryz.func78, Tryz.ntmps78
  go_wp2
  go_ret
  exact ⟨ret64 (by simp only [k1, k2, k3, add64, s30, s27, s31, xor64]; rfl), rfl⟩

/-- An int, taken modulo 2^64. -/
def u (a : Int) : BitVec 64 := BitVec.ofInt 64 a
theorem u_wrap (a : Int) : IntKind.u64.wrap a = n64 (u a) := by
  rw [wrap_u64]; unfold n64 u; rw [BitVec.toNat_ofInt]; simp; omega
theorem q4_lt (x : BitVec 64) : 0 ≤ n64 x / (4 : Int) ∧ n64 x / (4 : Int) < 4611686018427387904 := by have := n64_lt x; omega
theorem mix_word (a b : Int) (w : World) :
    Calls Tryz.prog 60 #[.int .i64 a, .int .i64 b] w fun e w' => e = .returned (.int .i64 (n64 (Crc.word (u a) (u b)) / (4 : Int))) ∧ w = w' := by
  go_enter Tryz.func60, Tryz.ntmps60
  go_wp2_with fail
  (with_reducible refine (word_any _ _ (u a) (u b) (u_wrap a) (u_wrap b) _).mono ?_)
  rintro e w' ⟨rfl, rfl⟩
  have h := q4_lt (Crc.word (u a) (u b))
  obtain ⟨h0, h1⟩ := h
  go_wp2
  go_ret
  exact ⟨rfl, rfl⟩

/-- The number by which a trace is chosen. -/
def hs (t : Int) : Int := n64 (Crc.word (u 0) (u t)) / (4 : Int)
theorem hs_lt (t : Int) : 0 ≤ hs t ∧ hs t < 4611686018427387904 := q4_lt _
theorem mix_any (t : Int) (w : World) : Calls Tryz.prog 60 #[.int .i64 0, .int .i64 t] w fun e w' => e = .returned (.int .i64 (hs t)) ∧ w = w' := mix_word 0 t w
theorem hash_any (t : Int) (w : World) : Calls Tryz.prog 51 #[.int .i64 t] w fun e w' => e = .returned (.int .i64 (hs t)) ∧ w = w' := by
  go_enter Tryz.func51, Tryz.ntmps51
  go_wp2_with fail
  (with_reducible refine (mix_any _ _).mono ?_)
  rintro e w' ⟨rfl, rfl⟩
  go_wp2
  go_ret
  exact ⟨rfl, rfl⟩

/-- Is the trace kept. -/
def kp (t s : Int) (e : Nat) : Bool := decide ((hs t + s) % 1024 < 2 ^ (10 - e))
theorem pow_wrap (k : Nat) (h : k ≤ 10) : wrap64 (2 ^ k) = 2 ^ k := by
  have hk : k = 0 ∨ k = 1 ∨ k = 2 ∨ k = 3 ∨ k = 4 ∨ k = 5 ∨ k = 6 ∨ k = 7 ∨ k = 8 ∨ k = 9 ∨ k = 10 := by omega
  rcases hk with rfl | rfl | rfl | rfl | rfl | rfl | rfl | rfl | rfl | rfl | rfl <;> simp [wrap64]
theorem ret_bool' {a b : Bool} (h : a = b) : Ending.returned (.bool a) = .returned (.bool b) := by rw [h]

theorem hash_q (t : Int) (w : World) : Calls Tryz.prog 51 #[.int .i64 t] w fun e w' => e = .returned (.int .i64 (hs t)) ∧ ∃ n, w' = w.drewN n :=
  (hash_any t w).mono fun e w' ⟨h1, h2⟩ => ⟨h1, 0, by subst h2; rfl⟩
theorem mix_q (t : Int) (w : World) : Calls Tryz.prog 60 #[.int .i64 0, .int .i64 t] w fun e w' => e = .returned (.int .i64 (hs t)) ∧ ∃ n, w' = w.drewN n :=
  (mix_any t w).mono fun e w' ⟨h1, h2⟩ => ⟨h1, 0, by subst h2; rfl⟩
theorem keep_any (t s : Int) (e : Nat) (h0 : 0 ≤ s) (h1 : s < 1024) (he : e ≤ 10) (w : World) :
    Calls Tryz.prog 29 #[.int .i64 t, .int .i64 s, .int .i64 e] w fun x w' => x = .returned (.bool (kp t s e)) ∧ ∃ n, w' = w.drewN n := by
  obtain ⟨g0, g1⟩ := hs_lt t
  go_enter Tryz.func29, Tryz.ntmps29
  go_wp2_with fail
  go_quiet (first | (go_at_call 51; refine Calls.quiet_of (hash_q _ _)))
  go_wp2_with fail
  go_ret
  exact ⟨ret_bool' (by rw [pow_wrap _ (by omega)]; rfl), nq, rfl⟩
theorem kept_any (t s : Int) (e : Nat) (h0 : 0 ≤ s) (h1 : s < 1024) (he : e ≤ 10) (w : World) :
    Calls Tryz.prog 34 #[.int .i64 t, .int .i64 s, .int .i64 e] w fun x w' => x = .returned (.bool (kp t s e)) ∧ ∃ n, w' = w.drewN n := by
  obtain ⟨g0, g1⟩ := hs_lt t
  have hmod : (hs t % 1024 + s) % 1024 = (hs t + s) % 1024 := by omega
  go_enter Tryz.func34, Tryz.ntmps34
  go_wp2_with fail
  go_quiet (first | (go_at_call 60; refine Calls.quiet_of (mix_q _ _)))
  go_wp2_with fail
  go_ret
  exact ⟨ret_bool' (by rw [pow_wrap _ (by omega)]; unfold kp; rw [← hmod]), nq, rfl⟩

end Go.Proofs.YtnddlpfmagdbfaaGreatDoor
/- Contract: the number of zeros at the end of a power of two. -/
namespace Go.Proofs.YtnddlpfmagdbfaaGreatDoor
open Go Go.Proofs Go.RowKit
set_option linter.unusedVariables false
set_option linter.unusedSimpArgs false
/-- The table of the numbers of zeros lies there. -/
def tabV : Array Value := #[.int .u8 0, .int .u8 1, .int .u8 56, .int .u8 2, .int .u8 57, .int .u8 49, .int .u8 28, .int .u8 3, .int .u8 61, .int .u8 58, .int .u8 42, .int .u8 50, .int .u8 38, .int .u8 29, .int .u8 17, .int .u8 4, .int .u8 62, .int .u8 47, .int .u8 59, .int .u8 36, .int .u8 45, .int .u8 43, .int .u8 51, .int .u8 22, .int .u8 53, .int .u8 39, .int .u8 33, .int .u8 30, .int .u8 24, .int .u8 18, .int .u8 12, .int .u8 5, .int .u8 63, .int .u8 55, .int .u8 48, .int .u8 27, .int .u8 60, .int .u8 41, .int .u8 37, .int .u8 16, .int .u8 46, .int .u8 35, .int .u8 44, .int .u8 21, .int .u8 52, .int .u8 32, .int .u8 23, .int .u8 11, .int .u8 54, .int .u8 26, .int .u8 40, .int .u8 15, .int .u8 34, .int .u8 20, .int .u8 31, .int .u8 10, .int .u8 25, .int .u8 14, .int .u8 19, .int .u8 9, .int .u8 13, .int .u8 8, .int .u8 7, .int .u8 6]
def TabAt (W : World) : Prop := ∃ ty, W.heap[1]? = some (.cells tabV ty (0, 0))
theorem TabAt.below {W W' : World} (h : TabAt W) (k : Below W.heap.size W W') : TabAt W' := let ⟨ty, h⟩ := h; ⟨ty, blk_keep k h⟩
theorem tz_at (n e i : Nat) (v : Nat) (w : World) (hn : 0 < n) (hn2 : n < 18446744073709551616) (hc : w.cell? ⟨1, i, none⟩ = some (.int .u8 v)) (hv : v < 64)
    (h1 : Go.bits .and .u64 (n : Int) (IntKind.u64.wrap (-(n : Int))) = n) (h2 : IntKind.u64.wrap ((n : Int) * 285870213051353865) / 288230376151711744 = (i : Int)) (hi : i < 64) :
    Calls Tryz.prog 50 #[.int .u64 n] w fun x w' => x = .returned (.int .i64 v) ∧ w' = w := by
  have h0 : ((n : Int) == 0) = false := by rw [beq_eq_false_iff_ne]; omega
  go_enter Tryz.func50, Tryz.ntmps50
  go_wp2
  go_ret
  exact ⟨rfl, rfl⟩
theorem tz64_any (e : Nat) (he : e ≤ 10) (w : World) (hT : TabAt w) : Calls Tryz.prog 50 #[.int .u64 ((2 ^ e : Nat) : Int)] w fun x w' => x = .returned (.int .i64 e) ∧ w' = w := by
  obtain ⟨ty, h⟩ := hT
  have hk : e = 0 ∨ e = 1 ∨ e = 2 ∨ e = 3 ∨ e = 4 ∨ e = 5 ∨ e = 6 ∨ e = 7 ∨ e = 8 ∨ e = 9 ∨ e = 10 := by omega
  rcases hk with rfl | rfl | rfl | rfl | rfl | rfl | rfl | rfl | rfl | rfl | rfl
  · exact tz_at 1 0 0 0 w (by decide) (by decide) (cell_blk h 0 rfl) (by decide) (by decide +kernel) (by decide +kernel) (by decide)
  · exact tz_at 2 1 1 1 w (by decide) (by decide) (cell_blk h 1 rfl) (by decide) (by decide +kernel) (by decide +kernel) (by decide)
  · exact tz_at 4 2 3 2 w (by decide) (by decide) (cell_blk h 3 rfl) (by decide) (by decide +kernel) (by decide +kernel) (by decide)
  · exact tz_at 8 3 7 3 w (by decide) (by decide) (cell_blk h 7 rfl) (by decide) (by decide +kernel) (by decide +kernel) (by decide)
  · exact tz_at 16 4 15 4 w (by decide) (by decide) (cell_blk h 15 rfl) (by decide) (by decide +kernel) (by decide +kernel) (by decide)
  · exact tz_at 32 5 31 5 w (by decide) (by decide) (cell_blk h 31 rfl) (by decide) (by decide +kernel) (by decide +kernel) (by decide)
  · exact tz_at 64 6 63 6 w (by decide) (by decide) (cell_blk h 63 rfl) (by decide) (by decide +kernel) (by decide +kernel) (by decide)
  · exact tz_at 128 7 62 7 w (by decide) (by decide) (cell_blk h 62 rfl) (by decide) (by decide +kernel) (by decide +kernel) (by decide)
  · exact tz_at 256 8 61 8 w (by decide) (by decide) (cell_blk h 61 rfl) (by decide) (by decide +kernel) (by decide +kernel) (by decide)
  · exact tz_at 512 9 59 9 w (by decide) (by decide) (cell_blk h 59 rfl) (by decide) (by decide +kernel) (by decide +kernel) (by decide)
  · exact tz_at 1024 10 55 10 w (by decide) (by decide) (cell_blk h 55 rfl) (by decide) (by decide +kernel) (by decide +kernel) (by decide)
theorem tz_any (e : Nat) (he : e ≤ 10) (w : World) (hT : TabAt w) : Calls Tryz.prog 28 #[.int .u64 ((2 ^ e : Nat) : Int)] w fun x w' => x = .returned (.int .i64 e) ∧ w' = w := by
  have hc := Lib.hid (tz64_any e he w hT)
  clear hT
  generalize ((2 ^ e : Nat) : Int) = n at *
  go_enter Tryz.func28, Tryz.ntmps28
  go_wp2_with (first
    | (go_at_call 50; (with_reducible refine hc.out.mono ?_); rintro e w' ⟨rfl, rfl⟩))
  go_ret
  exact ⟨rfl, rfl⟩
end Go.Proofs.YtnddlpfmagdbfaaGreatDoor
/- A weight that is in order is a power of two. -/
namespace Go.Proofs.YtnddlpfmagdbfaaGreatDoor
open Go Go.Proofs Go.RowKit
theorem pow_key : ∀ n : Nat, n < 1025 → 1 ≤ n → Go.bits .and .i64 (n : Int) ((n : Int) - 1) = 0 → n ∈ [1, 2, 4, 8, 16, 32, 64, 128, 256, 512, 1024] := by decide +kernel
theorem pow_of_ok (w : Int) (h1 : 1 ≤ w) (h2 : w ≤ 1024) (h : Go.bits .and .i64 w (w - 1) = 0) : ∃ e : Nat, e ≤ 10 ∧ w = ((2 ^ e : Nat) : Int) := by
  obtain ⟨n, rfl⟩ : ∃ n : Nat, w = n := ⟨w.toNat, by omega⟩
  have hm := pow_key n (by omega) (by omega) h
  simp only [List.mem_cons, List.not_mem_nil, or_false] at hm
  rcases hm with rfl | rfl | rfl | rfl | rfl | rfl | rfl | rfl | rfl | rfl | rfl
  · exact ⟨0, by decide, by decide⟩
  · exact ⟨1, by decide, by decide⟩
  · exact ⟨2, by decide, by decide⟩
  · exact ⟨3, by decide, by decide⟩
  · exact ⟨4, by decide, by decide⟩
  · exact ⟨5, by decide, by decide⟩
  · exact ⟨6, by decide, by decide⟩
  · exact ⟨7, by decide, by decide⟩
  · exact ⟨8, by decide, by decide⟩
  · exact ⟨9, by decide, by decide⟩
  · exact ⟨10, by decide, by decide⟩
theorem ok_of_pow (e : Nat) (he : e ≤ 10) : 1 ≤ ((2 ^ e : Nat) : Int) ∧ ((2 ^ e : Nat) : Int) ≤ 1024 ∧ Go.bits .and .i64 ((2 ^ e : Nat) : Int) (((2 ^ e : Nat) : Int) - 1) = 0 := by
  have hk : e = 0 ∨ e = 1 ∨ e = 2 ∨ e = 3 ∨ e = 4 ∨ e = 5 ∨ e = 6 ∨ e = 7 ∨ e = 8 ∨ e = 9 ∨ e = 10 := by omega
  rcases hk with rfl | rfl | rfl | rfl | rfl | rfl | rfl | rfl | rfl | rfl | rfl <;> decide +kernel
end Go.Proofs.YtnddlpfmagdbfaaGreatDoor
/- Rows of traces. -/
namespace Go.Proofs.YtnddlpfmagdbfaaGreatDoor
open Go Go.Proofs Go.RowKit
set_option linter.unusedVariables false
set_option linter.unusedSimpArgs false
/-- A block that a trace's spans lie in. -/
def TraceD.Uses (t : TraceD) (b : Nat) : Prop := (∃ q, t.A = some q ∧ q.block = b) ∨ ∃ x ∈ t.spans, (∃ q, x.aA = some q ∧ q.block = b) ∨ ∃ q, x.lA = some q ∧ q.block = b
theorem SpansIn.same {W W' : World} {A : Option Addr} {L : List SpanD} (h : SpansIn W A L) (k : ∀ q, A = some q → W'.heap[q.block]? = W.heap[q.block]?) : SpansIn W' A L := fun j hj => by
  obtain ⟨b, o, h1, h2⟩ := h j hj
  have hk : W'.heap[b]? = W.heap[b]? := k _ h1
  exact ⟨b, o, h1, fun i v hv => (World.cell?_of_block (a := ⟨b, o + j * 14 + i, none⟩) hk).trans (h2 i v hv)⟩
theorem TraceD.Lies.same {W W' : World} {t : TraceD} (h : t.Lies W) (k : ∀ b, t.Uses b → W'.heap[b]? = W.heap[b]?) : t.Lies W' :=
  ⟨h.len, h.at_.same fun q hq => k _ (.inl ⟨q, hq, rfl⟩), fun x hx => ⟨(h.held x hx).attrs.same fun q hq => k _ (.inr ⟨x, hx, .inl ⟨q, hq, rfl⟩⟩), (h.held x hx).links.same fun q hq => k _ (.inr ⟨x, hx, .inr ⟨q, hq, rfl⟩⟩), (h.held x hx).na, (h.held x hx).nl⟩, h.sound, h.txt⟩
/-- A trace's cells and what they point to lie from an address on. -/
def TracesIn (W : World) (A : Option Addr) (L : List TraceD) : Prop := ∀ j (h : j < L.length), ∃ b o, A = some ⟨b, o, none⟩ ∧ W.rangeAt b (o + j * 3) L[j].cells
theorem cellsT_len (t : TraceD) : t.cells.length = 3 := rfl
theorem TracesIn.below {W W' : World} {A : Option Addr} {L : List TraceD} (h : TracesIn W A L) (k : Below W.heap.size W W') : TracesIn W' A L := fun j hj =>
  let ⟨b, o, h1, h2⟩ := h j hj
  ⟨b, o, h1, rangeAt_below h2 (rangeAt_lt h2 (by rw [cellsT_len]; omega)) k⟩
def cellsT (L : List TraceD) : List Value := L.flatMap TraceD.cells
theorem cellsT_length (L : List TraceD) : (cellsT L).length = L.length * 3 := by
  induction L with
  | nil => rfl
  | cons x L ih => simp only [cellsT, List.flatMap_cons, List.length_append, cellsT_len, List.length_cons] at ih ⊢; omega
theorem cellsT_get {L : List TraceD} {j i : Nat} (hj : j < L.length) (hi : i < 3) : (cellsT L)[j * 3 + i]? = L[j].cells[i]? := by
  induction L generalizing j with
  | nil => simp at hj
  | cons x L ih =>
    cases j with
    | zero =>
      simp only [cellsT, List.flatMap_cons, Nat.zero_mul, Nat.zero_add, List.getElem_cons_zero]
      rw [List.getElem?_append_left (by rw [cellsT_len]; exact hi)]
    | succ j =>
      simp only [List.getElem_cons_succ]
      rw [← ih (by simpa using hj)]
      simp only [cellsT, List.flatMap_cons]
      rw [List.getElem?_append_right (by rw [cellsT_len]; omega), cellsT_len]
      congr 1
      omega
theorem cellsT_one (t : TraceD) : ∀ v ∈ t.cells, v.oneCell' = true := by
  intro v hv
  unfold TraceD.cells at hv
  simp only [List.mem_cons, List.not_mem_nil, or_false] at hv
  rcases hv with h | h | h <;> subst h <;> rfl
/-- A trace that has been made since a block, apart from another one. -/
structure TraceD.Own (lo : Nat) (W : World) (t : TraceD) : Prop where
  lies : t.Lies W
  uses : ∀ b, t.Uses b → lo ≤ b ∧ b < W.heap.size
theorem TraceD.Own.below {lo : Nat} {W W' : World} {t : TraceD} (h : t.Own lo W) (k : Below W.heap.size W W') : t.Own lo W' := ⟨h.lies.below k, fun b hb => ⟨(h.uses b hb).1, Nat.lt_of_lt_of_le (h.uses b hb).2 k.size⟩⟩
theorem TraceD.Own.mono {lo lo' : Nat} {W : World} {t : TraceD} (h : t.Own lo W) (k : lo' ≤ lo) : t.Own lo' W := ⟨h.lies, fun b hb => ⟨Nat.le_trans k (h.uses b hb).1, (h.uses b hb).2⟩⟩
theorem TraceD.Own.grown {lo : Nat} {W W' : World} {t : TraceD} {row : Option Nat} (h : t.Own lo W) (k : W.grownBy W' row) (hr : ∀ b, t.Uses b → some b ≠ row) : t.Own lo W' :=
  ⟨h.lies.same fun b hb => k.block _ (h.uses b hb).2 (hr b hb), fun b hb => ⟨(h.uses b hb).1, Nat.lt_of_lt_of_le (h.uses b hb).2 k.size⟩⟩
/-- A trace without addresses. -/
def TraceD.bare (t : TraceD) : Int × Int × List SpanD := (t.id, t.weight, t.spans.map SpanD.bare)
/-- Two rows of traces that have been made since a block. -/
structure Two (lo : Nat) (W : World) (v u : Value) (M N : List TraceD) : Prop where
  r : W.ownsRow lo 27 3 v M.length (cellsT M)
  s : W.ownsRow lo 27 3 u N.length (cellsT N)
  ne : v.ownBlock = none ∨ v.ownBlock ≠ u.ownBlock
  m : ∀ t ∈ M, t.Own lo W ∧ ∀ b, t.Uses b → some b ≠ v.ownBlock ∧ some b ≠ u.ownBlock
  n : ∀ t ∈ N, t.Own lo W ∧ ∀ b, t.Uses b → some b ≠ v.ownBlock ∧ some b ≠ u.ownBlock
theorem own_ne_comm {v u : Value} (h : v.ownBlock = none ∨ v.ownBlock ≠ u.ownBlock) : u.ownBlock = none ∨ u.ownBlock ≠ v.ownBlock := by
  cases hu : u.ownBlock with
  | none => exact .inl rfl
  | some g => exact .inr fun e => h.elim (fun h => by rw [h] at e; cases e) fun h => h (by rw [hu]; exact e.symm)
theorem Two.swap {lo : Nat} {W : World} {v u : Value} {M N : List TraceD} (h : Two lo W v u M N) : Two lo W u v N M :=
  ⟨h.s, h.r, own_ne_comm h.ne, fun t ht => ⟨(h.n t ht).1, fun b hb => ⟨((h.n t ht).2 b hb).2, ((h.n t ht).2 b hb).1⟩⟩, fun t ht => ⟨(h.m t ht).1, fun b hb => ⟨((h.m t ht).2 b hb).2, ((h.m t ht).2 b hb).1⟩⟩⟩
theorem Two.mono {lo lo' : Nat} {W : World} {v u : Value} {M N : List TraceD} (h : Two lo W v u M N) (k : lo' ≤ lo) : Two lo' W v u M N :=
  ⟨row_mono h.r k, row_mono h.s k, h.ne, fun t ht => ⟨(h.m t ht).1.mono k, (h.m t ht).2⟩, fun t ht => ⟨(h.n t ht).1.mono k, (h.n t ht).2⟩⟩
theorem Two.nil (lo : Nat) (W : World) : Two lo W (.slice none 0 0) (.slice none 0 0) [] [] := ⟨World.ownsRow_nil _ _ _ _, World.ownsRow_nil _ _ _ _, .inl rfl, by simp, by simp⟩
theorem Two.below {lo : Nat} {W W' : World} {v u : Value} {M N : List TraceD} (h : Two lo W v u M N) (k : Below W.heap.size W W') : Two lo W' v u M N :=
  ⟨row_keep h.r k, row_keep h.s k, h.ne, fun t ht => ⟨(h.m t ht).1.below k, (h.m t ht).2⟩, fun t ht => ⟨(h.n t ht).1.below k, (h.n t ht).2⟩⟩
/-- The first row with one more. -/
theorem Two.snoc {lo : Nat} {W W1 W2 : World} {v u v' : Value} {M N : List TraceD} {y : TraceD} (h : Two lo W v u M N) (hlo : lo ≤ W.heap.size) (hb : Below W.heap.size W W1) (hy : y.Own W.heap.size W1) (hr : W2.ownsRow lo 27 3 v' (M.length + 1) (cellsT M ++ y.cells)) (hg : W1.grownBy W2 v.ownBlock) (hat : v'.ownBlock = v.ownBlock ∨ v'.ownBlock = some W1.heap.size) :
    Two lo W2 v' u (M ++ [y]) N := by
  have hv : ∀ b, v.ownBlock = some b → b < W.heap.size := fun b hb' => (h.r.lt b hb').2
  have hu : ∀ b, u.ownBlock = some b → b < W.heap.size := fun b hb' => (h.s.lt b hb').2
  have hsz := hb.size
  have hyv : ∀ b, y.Uses b → some b ≠ v.ownBlock ∧ some b ≠ u.ownBlock := fun b hb' => by
    have h1 := (hy.uses b hb').1
    exact ⟨fun e => by have := hv _ e.symm; omega, fun e => by have := hu _ e.symm; omega⟩
  have hnew : ∀ t : TraceD, t.Own lo W1 → (∀ b, t.Uses b → some b ≠ v.ownBlock ∧ some b ≠ u.ownBlock) → t.Own lo W2 ∧ ∀ b, t.Uses b → some b ≠ v'.ownBlock ∧ some b ≠ u.ownBlock := fun t h1 h2 => by
    refine ⟨h1.grown hg fun b hb' => (h2 b hb').1, fun b hb' => ⟨?_, (h2 b hb').2⟩⟩
    rcases hat with e | e
    · rw [e]; exact (h2 b hb').1
    · rw [e]
      intro e
      have := Option.some.inj e
      have := (h1.uses b hb').2
      omega
  refine ⟨by rw [List.length_append, List.length_singleton, show cellsT (M ++ [y]) = cellsT M ++ y.cells by simp [cellsT]]; exact hr, ?_, ?_, fun t ht => ?_, fun t ht => ?_⟩
  · exact row_same (row_keep h.s hb) (fun g hg' => hg.block g (by have := hu g hg'; omega) (fun e => by rcases h.ne with h0 | h0
                                                                                                        · rw [h0] at e; cases e
                                                                                                        · exact h0 (e.symm.trans hg'.symm)))
  · rcases hat with e | e
    · rw [e]; exact h.ne
    · right
      rw [e]
      intro e
      have := hu _ e.symm
      omega
  · rcases List.mem_append.1 ht with ht | ht
    · exact hnew t ((h.m t ht).1.below hb) (h.m t ht).2
    · obtain rfl := List.mem_singleton.1 ht
      exact hnew t (hy.mono hlo) hyv
  · exact hnew t ((h.n t ht).1.below hb) (h.n t ht).2
theorem Two.slice {lo : Nat} {W : World} {v u : Value} {M N : List TraceD} (h : Two lo W v u M N) : ∃ A c, v = .slice A M.length c ∧ TracesIn W A M ∧ (∀ t ∈ M, t.Lies W) ∧ (∀ p, A = some p → p.spot = none) := by
  rcases h.r.2 with ⟨h0, h1⟩ | ⟨g, cap, cur, hv, hb, hg, h1, h2, h3, h4⟩
  · have : M = [] := List.length_eq_zero_iff.1 h1
    subst this
    exact ⟨none, 0, h0, fun j hj => absurd hj (Nat.not_lt_zero _), fun t ht => absurd ht List.not_mem_nil, by simp⟩
  · refine ⟨_, cap, hv, fun j hj => ⟨g, 0, rfl, fun i u hu => ?_⟩, fun t ht => (h.m t ht).1.lies, fun p hp => by cases hp; rfl⟩
    have hi : i < 3 := by
      have := (List.getElem?_eq_some_iff.1 hu).1
      rwa [cellsT_len] at this
    have h5 : (cellsT M)[j * 3 + i]? = some u := (cellsT_get hj hi).trans hu
    rw [← h4, List.getElem?_take_of_lt (by omega)] at h5
    refine cell_blk hg (0 + j * 3 + i) ?_
    rw [Nat.zero_add, ← Array.getElem?_toList]
    exact h5
/-- What copied gives is a trace of its own. -/
theorem copied_own {lo : Nat} {W : World} {id wt : Int} {A : Option Addr} {c : Nat} {M L : List SpanD} (hM : M.map SpanD.bare = L.map SpanD.bare) (hI : SpansIn W A M) (hO : ∀ x ∈ M, x.Owned lo W) (hA : ∀ q, A = some q → q.spot = none ∧ lo ≤ q.block ∧ q.block < W.heap.size) (hl : M.length ≤ 100000) (hT : ∀ x ∈ L, x.Txt) :
    (TraceD.mk id wt A c M).Own lo W := by
  refine ⟨⟨hl, hI, fun x hx => (hO x hx).held, fun x hx => (hO x hx).sound, fun x hx => ?_⟩, fun b hb => ?_⟩
  · have h1 : x.bare ∈ L.map SpanD.bare := hM ▸ List.mem_map_of_mem hx
    obtain ⟨y, hy, e⟩ := List.mem_map.1 h1
    have h2 := hT y hy
    have e' : ∀ z : SpanD, z.bare.Txt ↔ z.Txt := fun z => ⟨fun h => ⟨h.svc, h.ver, h.op, h.attrs⟩, fun h => ⟨h.svc, h.ver, h.op, h.attrs⟩⟩
    exact (e' x).1 (e ▸ (e' y).2 h2)
  · rcases hb with ⟨q, hq, rfl⟩ | ⟨x, hx, ⟨q, hq, rfl⟩ | ⟨q, hq, rfl⟩⟩
    · exact (hA q hq).2
    · exact (hO x hx).a q hq
    · exact (hO x hx).l q hq
end Go.Proofs.YtnddlpfmagdbfaaGreatDoor
/- Contract: the traces of a story. -/
namespace Go.Proofs.YtnddlpfmagdbfaaGreatDoor.Sto
open Go Go.Ev Go.Proofs Go.RowKit
set_option linter.unusedVariables false
set_option linter.unusedSimpArgs false
/-- A row's slice, written out. -/
theorem row_forms3 {w : World} {base size n : Nat} {e : TypeId} {v : Value} {xs : List Value} (h : w.ownsRow base e size v n xs) : ∃ a c, v = .slice a n c ∧ ((a = none ∧ n = 0 ∧ c = 0) ∨ ∃ g, a = some ⟨g, 0, none⟩ ∧ n ≤ c ∧ c ≤ maxLen) := by
  rcases h.2 with ⟨rfl, rfl⟩ | ⟨g, cap, cur, rfl, hb, hg, hc, hm, _⟩
  · exact ⟨none, 0, rfl, .inl ⟨rfl, rfl, rfl⟩⟩
  · exact ⟨_, cap, rfl, .inr ⟨g, rfl, hc, hm⟩⟩
def OutT (B lo : Nat) (v : Value) (tds : List TraceD) (W : World) : Prop := W.ownsRow B 27 3 v tds.length (tds.flatMap TraceD.cells) ∧ ∀ t ∈ tds, t.Own lo W ∧ ∀ b, t.Uses b → some b ≠ v.ownBlock
theorem OutT.below {B lo : Nat} {v : Value} {tds : List TraceD} {W W' : World} (h : OutT B lo v tds W) (k : Below W.heap.size W W') : OutT B lo v tds W' := ⟨row_below h.1 k, fun t ht => ⟨(h.2 t ht).1.below k, (h.2 t ht).2⟩⟩
theorem own_apart {lo : Nat} {W W9 : World} {t : TraceD} {x : Value} {e : TypeId} {k n : Nat} {xs : List Value} (h : t.Own lo W) (hB : Below W.heap.size W W9) (hr : W9.ownsRow W.heap.size e k x n xs) : t.Own lo W9 ∧ ∀ b, t.Uses b → some b ≠ x.ownBlock :=
  ⟨h.below hB, fun b hb e => by have h1 := (hr.lt b e.symm).1; have h2 := (h.uses b hb).2; omega⟩
theorem _root_.Go.Proofs.YtnddlpfmagdbfaaGreatDoor.TraceD.Own.setCells {lo : Nat} {W : World} {t : TraceD} (h : t.Own lo W) {g : Nat} (hg : ¬ t.Uses g) (o : Nat) (vs : List Value) : t.Own lo (W.setCells g o vs) :=
  ⟨h.lies.same fun b hb => World.heap_setCells_other _ _ _ _ (h.uses b hb).2 (fun e => hg (e ▸ hb)), fun b hb => ⟨(h.uses b hb).1, by have := (h.uses b hb).2; have := (below_setCells (base := 0) (w := W) g (Nat.zero_le _) vs o W (Below.refl _ _)).size; omega⟩⟩
theorem nth_size {l : List ByteArray} {i : Int} {n : Nat} (h : ∀ x ∈ l, x.size ≤ n) : (nth l i).size ≤ n := by
  unfold nth
  rw [List.getD_eq_getElem?_getD]
  rcases Nat.lt_or_ge i.toNat l.length with hl | hl
  · rw [List.getElem?_eq_getElem hl]
    exact h _ (List.getElem_mem hl)
  · rw [List.getElem?_eq_none hl]
    exact Nat.zero_le _
theorem zone_size (i : Nat) : (zones.getD i ⟨#[]⟩).size ≤ 9223372036854775807 := by
  rw [List.getD_eq_getElem?_getD]
  rcases Nat.lt_or_ge i zones.length with hl | hl
  · rw [List.getElem?_eq_getElem hl]
    have : ∀ x ∈ zones, x.size ≤ 9223372036854775807 := by decide
    exact this _ (List.getElem_mem hl)
  · rw [List.getElem?_eq_none hl]
    exact Nat.zero_le _
theorem attrX_txt (t : Nat) : ∀ a ∈ attrX t, a.key.size ≤ 9223372036854775807 ∧ a.text.size ≤ 9223372036854775807 := by
  intro a ha
  have h := List.mem_of_mem_take ha
  unfold attrAll at h
  simp only [List.mem_cons, List.not_mem_nil, or_false] at h
  rcases h with rfl | rfl | rfl
  · exact ⟨(by decide : (2 : Nat) ≤ _), Nat.zero_le _⟩
  · exact ⟨(by decide : (4 : Nat) ≤ _), Nat.zero_le _⟩
  · exact ⟨(by decide : (4 : Nat) ≤ _), zone_size _⟩
theorem spanX_txt (t : TreeD) (o0 o1 o2 o3 q : Int) (k i : Nat) : (spanX t o0 o1 o2 o3 q k i).Txt :=
  ⟨nth_size (by decide), nth_size (by decide), nth_size (by decide), attrX_txt _⟩
theorem traceX_length (t : TreeD) (o0 o1 o2 o3 q : Int) (k : Nat) : (traceX t o0 o1 o2 o3 q k).length = t.cs.length := by simp [traceX]
/-- A row of spans as a trace of its own. -/
theorem made_own {lo : Nat} {W : World} {v : Value} {M : List SpanD} {t : TreeD} {o0 o1 o2 o3 q : Int} {k : Nat} (h : RowX lo W v M) (hb : M.map SpanD.bare = traceX t o0 o1 o2 o3 q k) (hl : t.cs.length ≤ 8) (id : Int) :
    ∃ A c, v = .slice A M.length c ∧ (TraceD.mk id 1 A c M).Own lo W := by
  obtain ⟨A, c, rfl, hI, hn, hs⟩ := h.slice
  have hM : M.length = t.cs.length := by have := congrArg List.length hb; rwa [List.length_map, traceX_length] at this
  have hbb : ∀ i, SpanD.bare (spanX t o0 o1 o2 o3 q k i) = spanX t o0 o1 o2 o3 q k i := fun _ => rfl
  refine ⟨A, c, rfl, copied_own (L := traceX t o0 o1 o2 o3 q k) ?_ hI h.own (fun p hp => ?_) (by omega) ?_⟩
  · rw [hb, traceX, List.map_map]
    exact List.map_congr_left fun i _ => (hbb i).symm
  · subst hp
    have := h.row.lt p.block (by have := hs p rfl; cases p; simp only at this; subst this; first | rfl | (rcases h.row.2 with ⟨e, _⟩ | ⟨g, cap, cur, e, _⟩ <;> cases e <;> rfl))
    exact ⟨hs p rfl, this⟩
  · intro x hx
    obtain ⟨i, _, rfl⟩ := List.mem_map.1 hx
    exact spanX_txt _ _ _ _ _ _ _ _
/-- Where a trace goes: behind the last one whose id is not greater. -/
def posX (id : Int) (ids : List Int) : Nat → Nat
  | 0 => 0
  | n + 1 => if id < ids.getD n 0 then posX id ids n else n + 1
theorem pos_at {tds : List TraceD} {k : Nat} (h : k < tds.length) : (tds.map TraceD.id).getD k 0 = tds[k].id := by rw [List.getD_eq_getElem?_getD, List.getElem?_map, List.getElem?_eq_getElem h]; rfl
abbrev BareT := Int × Int × List SpanD
def insX (y : BareT) (L : List BareT) : List BareT := L.take (posX y.1 (L.map (·.1)) L.length) ++ [y] ++ L.drop (posX y.1 (L.map (·.1)) L.length)
def stepTr (ts : List TreeD) (o0 o1 o2 o3 q : Int) (L : List BareT) (k : Nat) : List BareT :=
  match ts[k]? with
  | none => L
  | some t => if t.cs.length = 0 then L else insX (tidX t k, 1, traceX t o0 o1 o2 o3 q k) L
def tracesN (ts : List TreeD) (o0 o1 o2 o3 q : Int) (n : Nat) : List BareT := (List.range n).foldl (stepTr ts o0 o1 o2 o3 q) []
/-- The traces of a story, without addresses. -/
def tracesX (ts : List TreeD) (o0 o1 o2 o3 q : Int) : List BareT := tracesN ts o0 o1 o2 o3 q ts.length
theorem tracesN_succ (ts : List TreeD) (o0 o1 o2 o3 q : Int) (n : Nat) : tracesN ts o0 o1 o2 o3 q (n + 1) = stepTr ts o0 o1 o2 o3 q (tracesN ts o0 o1 o2 o3 q n) n := by
  unfold tracesN
  rw [List.range_succ, List.foldl_append]
  rfl
theorem tracesN_none {ts : List TreeD} {o0 o1 o2 o3 q : Int} {n : Nat} (h : n < ts.length) (h0 : ts[n].cs.length = 0) : tracesN ts o0 o1 o2 o3 q (n + 1) = tracesN ts o0 o1 o2 o3 q n := by
  rw [tracesN_succ]
  unfold stepTr
  rw [List.getElem?_eq_getElem h]
  exact if_pos h0
/-- A trace put into a row at its place. -/
theorem tracesN_ins {ts : List TreeD} {o0 o1 o2 o3 q : Int} {j n : Nat} {tds : List TraceD} {A : Option Addr} {c : Nat} {M : List SpanD} (h : j < ts.length) (h0 : ts[j].cs.length ≠ 0) (hb : tds.map TraceD.bare = tracesN ts o0 o1 o2 o3 q j)
    (hM : M.map SpanD.bare = traceX ts[j] o0 o1 o2 o3 q j) (hp : posX (tidX ts[j] j) (tds.map TraceD.id) tds.length = n) :
    (tds.take n ++ ([⟨tidX ts[j] j, 1, A, c, M⟩] : List TraceD) ++ tds.drop n).map TraceD.bare = tracesN ts o0 o1 o2 o3 q (j + 1) := by
  rw [tracesN_succ]
  unfold stepTr
  rw [List.getElem?_eq_getElem h]
  simp only [if_neg h0]
  unfold insX
  rw [← hb, List.map_map, List.length_map, show ((·.1) ∘ TraceD.bare : TraceD → Int) = TraceD.id from rfl]
  simp only [hp, List.map_append, List.map_take, List.map_drop, List.map_cons, List.map_nil, TraceD.bare, hM]
/-- What stands while a region of the round is on its way. -/
def TracesS (w0 : World) (g : Nat) (a : Option Addr) (n c : Nat) (o0 o1 o2 o3 : Int) (b : Option Addr) (m d : Nat) (q : Int) (W : World) : Prop := Below w0.heap.size w0 W ∧ W.cell? ⟨g, 0, none⟩ = some (.slice a n c) ∧ W.cell? ⟨g, 1, none⟩ = some (.int .i8 o0) ∧ W.cell? ⟨g, 2, none⟩ = some (.int .i8 o1) ∧ W.cell? ⟨g, 3, none⟩ = some (.int .i8 o2) ∧ W.cell? ⟨g, 4, none⟩ = some (.int .i8 o3) ∧ W.cell? ⟨g, 5, none⟩ = some (.slice b m d) ∧ W.cell? ⟨g, 6, none⟩ = some (.int .u8 q)
theorem TracesS.mk {w0 W : World} {g : Nat} {a : Option Addr} {n c : Nat} {o0 o1 o2 o3 : Int} {b : Option Addr} {m d : Nat} {q : Int} (h : Below w0.heap.size w0 W) (hs : StoryB w0 g a n c o0 o1 o2 o3 b m d q) : TracesS w0 g a n c o0 o1 o2 o3 b m d q W :=
  have hs' := (h.block _ (blk_lt hs)).trans hs
  let ⟨b0, b1, b2, b3, b4, b5, b6, _⟩ := StoryB.cells hs'
  ⟨h, b0, b1, b2, b3, b4, b5, b6⟩
def TracesI (w0 : World) (g : Nat) (a : Option Addr) (n c : Nat) (o0 o1 o2 o3 : Int) (b : Option Addr) (m d : Nat) (q : Int) (tid : Int) (X : List SpanD) (A : Act) (L : Nat → Prop) (a' : Act) (W : World) : Prop :=
  TracesS w0 g a n c o0 o1 o2 o3 b m d q W ∧ ∃ x24 x27 x28 x5 : Value, a' = (((A.put (some 24) x24).put (some 27) x27).put (some 28) x28).put (some 5) x5 ∧
    (L 5 → L 2) ∧ (L 6 → L 5) ∧ (L 8 → L 6 ∧ L 7) ∧ (L 2 → x24 = .int .i64 tid) ∧ (L 5 → ∃ A' c' M, x27 = .slice A' M.length c' ∧ M.map SpanD.bare = X ∧ (TraceD.mk tid 1 A' c' M).Own w0.heap.size W ∧ (L 7 → ∀ g', x5 = .pointer (some ⟨g', 0, none⟩) → ¬ (TraceD.mk tid 1 A' c' M).Uses g')) ∧ (L 6 → x28 = .agg #[x24, .int .i64 1, x27]) ∧
    (L 7 → ∃ g' cs, x5 = .pointer (some ⟨g', 0, none⟩) ∧ w0.heap.size ≤ g' ∧ W.heap[g']? = some (.cells cs 27 (0, 0)) ∧ cs.size = 3 ∧ (L 8 → .agg cs = x28))
theorem cellsD_get : ∀ {tds : List TraceD} {k : Nat} (h : k < tds.length), (tds.flatMap TraceD.cells)[k * 3]? = some (.int .i64 tds[k].id)
  | t :: tds, 0, _ => rfl
  | t :: tds, k + 1, h => by
    rw [List.flatMap_cons, List.getElem?_append_right (by rw [cellsT_len]; omega), cellsT_len, show (k + 1) * 3 - 3 = k * 3 from by omega]
    exact cellsD_get (by simpa using h)
theorem add_spotless (g o j : Nat) : (⟨g, o, none⟩ : Addr).add j = ⟨g, o + j, none⟩ := by
  unfold Addr.add; split <;> simp_all
theorem flatT_length : ∀ (tds : List TraceD), (tds.flatMap TraceD.cells).length = tds.length * 3
  | [] => rfl
  | t :: tds => by rw [List.flatMap_cons, List.length_append, flatT_length tds, List.length_cons, cellsT_len]; omega
theorem flatT_one (tds : List TraceD) : ∀ u ∈ tds.flatMap TraceD.cells, u.oneCell' = true := by
  intro u hu
  obtain ⟨t, _, h⟩ := List.mem_flatMap.1 hu
  exact cellsT_one t u h
theorem flatT_split (tds : List TraceD) (n : Nat) : tds.flatMap TraceD.cells = (tds.take n).flatMap TraceD.cells ++ (tds.drop n).flatMap TraceD.cells := by
  rw [← List.flatMap_append, List.take_append_drop]
theorem out_take {B lo g c n : Nat} {tds : List TraceD} {W : World} (h : OutT B lo (.slice (some ⟨g, 0, none⟩) tds.length c) tds W) : ∀ p, some (⟨g, 0, none⟩ : Addr) = some p → ∀ j u, ((tds.take n).flatMap TraceD.cells)[j]? = some u → W.cell? (p.add j) = some u := by
  intro p hp j u hu
  obtain rfl := Option.some.inj hp
  have hj : j < ((tds.take n).flatMap TraceD.cells).length := by
    rcases Nat.lt_or_ge j ((tds.take n).flatMap TraceD.cells).length with h | h
    · exact h
    · rw [List.getElem?_eq_none h] at hu; cases hu
  refine h.1.cells rfl j u ?_
  rw [flatT_split tds n, List.getElem?_append_left hj]
  exact hu
theorem out_drop {B lo g c n : Nat} {tds : List TraceD} {W : World} (h : OutT B lo (.slice (some ⟨g, 0, none⟩) tds.length c) tds W) (hc : tds.length ≤ c) (hn : n ≤ tds.length) : ∀ p, (if c = n then some (⟨g, 0, none⟩ : Addr) else some ⟨g, n * 3, none⟩) = some p → ∀ j u, ((tds.drop n).flatMap TraceD.cells)[j]? = some u → W.cell? (p.add j) = some u := by
  intro p hp j u hu
  have hj : j < ((tds.drop n).flatMap TraceD.cells).length := by
    rcases Nat.lt_or_ge j ((tds.drop n).flatMap TraceD.cells).length with h | h
    · exact h
    · rw [List.getElem?_eq_none h] at hu; cases hu
  rw [flatT_length, List.length_drop] at hj
  rw [if_neg (by omega)] at hp
  obtain rfl := Option.some.inj hp
  have hl : ((tds.take n).flatMap TraceD.cells).length = n * 3 := by rw [flatT_length, List.length_take, Nat.min_eq_left hn]
  have := h.1.cellAt (n * 3 + j) (by omega)
  rw [flatT_split tds n, List.getElem?_append_right (by omega), hl, show n * 3 + j - n * 3 = j by omega] at this
  rw [add_spotless]
  exact this.trans hu
/-- What stands while the row is put together anew. -/
def AppI (S : World → Prop) (B n k : Nat) (xs t ys : List Value) (A : Act) (L : Nat → Prop) (a' : Act) (W : World) : Prop :=
  S W ∧ ∃ x46 x50 x52 x53 x57 x3 : Value, a' = (((((A.put (some 46) x46).put (some 50) x50).put (some 52) x52).put (some 53) x53).put (some 57) x57).put (some 3) x3 ∧ B ≤ W.heap.size ∧
    (L 4 → L 0) ∧ (L 7 → L 4 ∧ L 6) ∧ (L 11 → L 7) ∧ (L 12 → L 11) ∧
    (L 0 → ¬ L 4 → W.ownsRow B 27 3 x46 0 []) ∧ (L 4 → ¬ L 7 → W.ownsRow B 27 3 x50 n xs) ∧
    (L 6 → ¬ L 7 → ∃ g, x52 = .slice (some ⟨g, 0, none⟩) 1 1 ∧ W.heap[g]? = some (.cells t.toArray 27 (0, 0)) ∧ (L 0 → ¬ L 4 → x46.ownBlock ≠ some g) ∧ (L 4 → x50.ownBlock ≠ some g)) ∧
    (L 7 → ¬ L 11 → W.ownsRow B 27 3 x53 (n + 1) (xs ++ t)) ∧ (L 11 → W.ownsRow B 27 3 x57 (n + 1 + k) (xs ++ t ++ ys)) ∧ (L 12 → x3 = x57)
theorem info70 : infoSz 3 (Tryz.prog.info? 27) = true := by kernel_rfl
set_option maxRecDepth 20000 in
set_option maxHeartbeats 8000000 in
theorem traces_any (a : Option Addr) (ts : List TreeD) (c : Nat) (o0 o1 o2 o3 : Int) (b : Option Addr) (m d : Nat) (q : Int) (hq : isU8 q) (hoo : isI8 o0 ∧ isI8 o1 ∧ isI8 o2 ∧ isI8 o3) (w : World) (ht : TreesAt w a ts) (hcl : ∀ j (hj : j < ts.length), ts[j].cs.length ≤ 8) (hl : ts.length ≤ 3) :
    Calls Tryz.prog 22 #[.agg #[.slice a ts.length c, .int .i8 o0, .int .i8 o1, .int .i8 o2, .int .i8 o3, .slice b m d, .int .u8 q]] w fun e w' => (∃ v tds, e = .returned v ∧ OutT w.heap.size w.heap.size v tds w' ∧ tds.map TraceD.bare = tracesX ts o0 o1 o2 o3 q ∧ tds.length ≤ 3) ∧ Below w.heap.size w w' := by
  have HB0 := Lib.hid (below_alloc w (.cells #[.slice a ts.length c, .int .i8 o0, .int .i8 o1, .int .i8 o2, .int .i8 o3, .slice b m d, .int .u8 q] 52))
  have HS0 := Lib.hid (show StoryB (w.alloc (.cells #[.slice a ts.length c, .int .i8 o0, .int .i8 o1, .int .i8 o2, .int .i8 o3, .slice b m d, .int .u8 q] 52)) w.heap.size a ts.length c o0 o1 o2 o3 b m d q from heap_alloc_last _ _)
  have HT := Lib.hid ht
  have HC := Lib.hid hcl
  have HOO := Lib.hid hoo
  obtain ⟨t3, z3, ht3, ht3z, ht3s, ht3b, ht3c⟩ := infoSz_spec info70
  clear ht hcl hoo
  go_enter Tryz.func22, Tryz.ntmps22
  go_wp2_with fail
  go_loopw [3, 4] (fun v3 i wr => ∃ (j : Nat) (tds : List TraceD), j ≤ ts.length ∧ tds.length ≤ j ∧ i = .int .i64 j ∧ Hid (Below w.heap.size w wr) ∧ Hid (StoryB wr w.heap.size a ts.length c o0 o1 o2 o3 b m d q) ∧ Hid (OutT (w.heap.size + 1) w.heap.size v3 tds wr) ∧ Hid (tds.map TraceD.bare = tracesN ts o0 o1 o2 o3 q j)) (fun _ i _ => ts.length - (intOf i).toNat)
  case atStart => exact ⟨0, [], by omega, by simp, rfl, HB0, HS0, Lib.hid ⟨World.ownsRow_nil _ _ _ _, by simp⟩, Lib.hid rfl⟩
  case round =>
    clear HB0 HS0
    obtain ⟨j, tds, hj, htl, rfl, HB, HS, HO, HV⟩ := hrel
    obtain ⟨b0, b1, b2, b3, b4, b5, b6, z0⟩ := StoryB.cells HS.out
    have hform := row_forms3 HO.out.1
    obtain ⟨a3, c3, rfl, hform⟩ := hform
    by_cases hlt : j < ts.length
    · obtain ⟨ad, rfl, t0, t1, t2, htc, hs1, hs2⟩ := HT.out.below HB.out j hlt
      have hcj := HC.out j hlt
      clear htc hs1 hs2
      by_cases hc0 : ts[j].cs.length = 0
      · rw [hc0] at t2
        go_wp2_with fail
        exact ⟨⟨j + 1, tds, by omega, by omega, by go_num, HB, HS, HO, Lib.hid (HV.out.trans (tracesN_none hlt hc0).symm)⟩, by simp [intOf]; omega⟩
      · have hcp : (0 : Int) < (ts[j].cs.length : Int) := by omega
        have HTr := Lib.hid (fun (W : World) (h : Below wr.heap.size wr W) => HT.out.below (below_on HB.out h HB.out.size))
        go_upto_region 6 with (fail)
        generalize ((ts[j].cs.length : Int) == 0) = z21
        refine wp_region_held_drew (S := (fun W => TracesS wr w.heap.size (some ad) ts.length c o0 o1 o2 o3 b m d q W)) (by kernel_rfl) (TracesS.mk (below_drew _) HS.out) (fun hHeld => ?_)
        refine take_at (i := 0) (v := ?_) rfl (by kernel_rfl) (by kernel_rfl) (by kernel_rfl) (fun _ _ _ h => h) (Or.inl ⟨by rfl, ?_⟩) hHeld ?_
        rotate_left
        · intro W hSw; (try dsimp only at hSw); unfold TracesS at hSw; go_simp; try with_reducible rfl
        try simp only [Act.put, List.setIfInBounds_toArray, List.set_cons_zero, List.set_cons_succ]
        refine take_at (i := 1) (v := ?_) rfl (by kernel_rfl) (by kernel_rfl) (by kernel_rfl) (fun _ _ _ h => h) (Or.inl ⟨by rfl, ?_⟩) hHeld ?_
        rotate_left
        · intro W hSw; (try dsimp only at hSw); unfold TracesS at hSw; go_simp; try with_reducible rfl
        try simp only [Act.put, List.setIfInBounds_toArray, List.set_cons_zero, List.set_cons_succ]
        refine take_at (i := 3) (v := ?_) rfl (by kernel_rfl) (by kernel_rfl) (by kernel_rfl) (fun _ _ _ h => h) (Or.inl ⟨by rfl, ?_⟩) hHeld ?_
        rotate_left
        · intro W hSw; (try dsimp only at hSw); unfold TracesS at hSw; go_simp; try with_reducible rfl
        try simp only [Act.put, List.setIfInBounds_toArray, List.set_cons_zero, List.set_cons_succ]
        refine take_at (i := 4) (v := ?_) rfl (by kernel_rfl) (by kernel_rfl) (by kernel_rfl) (fun _ _ _ h => h) (Or.inl ⟨by rfl, ?_⟩) hHeld ?_
        rotate_left
        · intro W hSw; (try dsimp only at hSw); unfold TracesS at hSw; go_simp; try with_reducible rfl
        try simp only [Act.put, List.setIfInBounds_toArray, List.set_cons_zero, List.set_cons_succ]
        refine wpAnyH_rest [2, 5, 6, 7, 8] (TracesI wr w.heap.size (some ad) ts.length c o0 o1 o2 o3 b m d q (tidX ts[j] j) (traceX ts[j] o0 o1 o2 o3 q j)) (by kernel_rfl) rfl (by kernel_rfl) (by kernel_rfl) (by kernel_rfl) ?_ (fun _ _ _ h => h.1) ?_ ?_
        · intro L hL
          have g : ∀ k ∈ [2, 5, 6, 7, 8], L k → False := fun k hk h => hL k hk h
          refine ⟨hHeld, ?x24, ?x27, ?x28, ?x5, ?eq, fun h => (g 5 (by simp) h).elim, fun h => (g 6 (by simp) h).elim, fun h => (g 8 (by simp) h).elim, fun h => (g 2 (by simp) h).elim, fun h => (g 5 (by simp) h).elim, fun h => (g 6 (by simp) h).elim, fun h => (g 7 (by simp) h).elim⟩
          case eq =>
            simp only [Act.put, List.setIfInBounds_toArray, List.set_cons_zero, List.set_cons_succ]
            try rfl
        · intro i0 hi0
          simp only [List.mem_cons, List.not_mem_nil, or_false] at hi0
          rcases hi0 with rfl | rfl | rfl | rfl | rfl
          · intro L A W o hI ho hn hd
            obtain rfl := Option.some.inj (show some _ = some o from nth_of ho)
            obtain ⟨hS, x24, x27, x28, x5, rfl, h52, h65, h8, hA, hB, hC, hD⟩ := hI
            simp only [Act.put, List.setIfInBounds_toArray, List.set_cons_zero, List.set_cons_succ]
            refine wpOp_step (nth_at rfl) (fun K hK => ?_)
            rw [if_pos (by rfl)]
            go_simp
            (with_reducible refine (traceId_any _ _ _ _ _ _ _ _ _ _ _ _ hlt (by omega) _ ?tr).mono ?_)
            case tr => exact HTr.out _ hS.1
            rintro e w' ⟨rfl, hbb⟩
            refine hK _ _ ⟨TracesS.mk (below_on hS.1 hbb hS.1.size) HS.out, .int .i64 (tidX ts[j] j), x27, x28, x5, ?_, fun h => absurd (h52 (h.resolve_right (by decide))) hn, fun h => absurd (h52 (h65 (h.resolve_right (by decide)))) hn, fun h => absurd (h52 (h65 (h8 (h.resolve_right (by decide))).1)) hn, fun _ => rfl, fun h => absurd (h52 (h.resolve_right (by decide))) hn, fun h => absurd (h52 (h65 (h.resolve_right (by decide)))) hn, fun h => ?_⟩
            · simp only [Act.put, List.setIfInBounds_toArray, List.set_cons_zero, List.set_cons_succ]
            · obtain ⟨g, cs, e1, e2, e3, e4, e5⟩ := hD (h.resolve_right (by decide))
              exact ⟨g, cs, e1, e2, blk_keep hbb e3, e4, fun h => absurd (h52 (h65 (h8 (h.resolve_right (by decide))).1)) hn⟩
          · intro L A W o hI ho hn hd
            obtain rfl := Option.some.inj (show some _ = some o from nth_of ho)
            obtain ⟨hS, x24, x27, x28, x5, rfl, h52, h65, h8, hA, hB, hC, hD⟩ := hI
            simp only [Act.put, List.setIfInBounds_toArray, List.set_cons_zero, List.set_cons_succ]
            refine wpOp_step (nth_at rfl) (fun K hK => ?_)
            rw [if_pos (by rfl)]
            have l2 : L 2 := hd { on := 2, ground := Ground.chain } (by simp) rfl (by simp)
            go_simp
            refine (trace_any _ _ _ _ _ _ _ _ _ _ _ _ hlt hq HOO.out _ ?tr2 (fun i hi => HC.out i hi) (by omega)).mono ?_
            case tr2 => exact HTr.out _ hS.1
            rintro e w' ⟨⟨v5, M, rfl, hrx, hmb⟩, hbb⟩
            obtain ⟨A5, c5, rfl, hsp⟩ := made_own hrx hmb (HC.out j hlt) (tidX ts[j] j)
            clear hrx
            refine hK _ _ ⟨TracesS.mk (below_on hS.1 hbb hS.1.size) HS.out, x24, .slice A5 M.length c5, x28, x5, ?_, fun _ => .inl l2, fun h => absurd (h65 (h.resolve_right (by decide))) hn, fun h => absurd (h65 (h8 (h.resolve_right (by decide))).1) hn, fun h => hA (h.resolve_right (by decide)), fun _ => ⟨A5, c5, M, rfl, hmb, hsp.mono hS.1.size, fun h g' hg hu => by obtain ⟨g, cs, e1, e2, e3, e4, e5⟩ := hD (h.resolve_right (by decide)); have h1 := blk_lt e3; have h2 := (hsp.uses g' hu).1; rw [e1] at hg; cases hg; omega⟩, fun h => absurd (h65 (h.resolve_right (by decide))) hn, fun h => ?_⟩
            · simp only [Act.put, List.setIfInBounds_toArray, List.set_cons_zero, List.set_cons_succ]
            · obtain ⟨g, cs, e1, e2, e3, e4, e5⟩ := hD (h.resolve_right (by decide))
              exact ⟨g, cs, e1, e2, blk_keep hbb e3, e4, fun h => absurd (h65 (h8 (h.resolve_right (by decide))).1) hn⟩
          · intro L A W o hI ho hn hd
            obtain rfl := Option.some.inj (show some _ = some o from nth_of ho)
            obtain ⟨hS, x24, x27, x28, x5, rfl, h52, h65, h8, hA, hB, hC, hD⟩ := hI
            simp only [Act.put, List.setIfInBounds_toArray, List.set_cons_zero, List.set_cons_succ]
            refine wpOp_step (nth_at rfl) (fun K hK => ?_)
            rw [if_pos (by rfl)]
            have l5 : L 5 := hd { on := 5, ground := Ground.data } (by simp) rfl (by simp)
            obtain rfl := hA (h52 l5)
            obtain ⟨A5, c5, M, rfl, hmb, hsp, hus⟩ := hB l5
            go_simp
            refine hK _ _ ⟨hS, .int .i64 (tidX ts[j] j), .slice A5 M.length c5, _, x5, ?_, fun _ => .inl (h52 l5), fun _ => .inl l5, fun h => absurd (h8 (h.resolve_right (by decide))).1 hn, fun _ => rfl, fun _ => ⟨A5, c5, M, rfl, hmb, hsp, fun h => hus (h.resolve_right (by decide))⟩, fun _ => rfl, fun h => ?_⟩
            · simp only [Act.put, List.setIfInBounds_toArray, List.set_cons_zero, List.set_cons_succ]
            · obtain ⟨g, cs, e1, e2, e3, e4, e5⟩ := hD (h.resolve_right (by decide))
              exact ⟨g, cs, e1, e2, e3, e4, fun h => absurd (h8 (h.resolve_right (by decide))).1 hn⟩
          · intro L A W o hI ho hn hd
            obtain rfl := Option.some.inj (show some _ = some o from nth_of ho)
            obtain ⟨hS, x24, x27, x28, x5, rfl, h52, h65, h8, hA, hB, hC, hD⟩ := hI
            simp only [Act.put, List.setIfInBounds_toArray, List.set_cons_zero, List.set_cons_succ]
            refine wpOp_step (nth_at rfl) (fun K hK => ?_)
            rw [if_pos (by rfl)]
            go_simp
            refine hK _ _ ⟨TracesS.mk (below_on hS.1 (below_alloc _ _) hS.1.size) HS.out, x24, x27, x28, .pointer (some ⟨W.heap.size, 0, none⟩), ?_, fun h => .inl (h52 (h.resolve_right (by decide))), fun h => .inl (h65 (h.resolve_right (by decide))), fun h => absurd (h8 (h.resolve_right (by decide))).2 hn, fun h => hA (h.resolve_right (by decide)), fun h => ?_, fun h => hC (h.resolve_right (by decide)), fun _ => ⟨W.heap.size, _, rfl, hS.1.size, heap_alloc_last _ _, rfl, fun h => absurd (h8 (h.resolve_right (by decide))).2 hn⟩⟩
            · simp only [Act.put, List.setIfInBounds_toArray, List.set_cons_zero, List.set_cons_succ]
            · obtain ⟨A5, c5, M, e1, hmb, e2, _⟩ := hB (h.resolve_right (by decide))
              exact ⟨A5, c5, M, e1, hmb, e2.below (below_alloc _ _), fun _ g' hg hu => by have := (e2.uses g' hu).2; cases hg; omega⟩
          · intro L A W o hI ho hn hd
            obtain rfl := Option.some.inj (show some _ = some o from nth_of ho)
            obtain ⟨hS, x24, x27, x28, x5, rfl, h52, h65, h8, hA, hB, hC, hD⟩ := hI
            simp only [Act.put, List.setIfInBounds_toArray, List.set_cons_zero, List.set_cons_succ]
            refine wpOp_step (nth_at rfl) (fun K hK => ?_)
            rw [if_pos (by rfl)]
            have l6 : L 6 := hd { on := 6, ground := Ground.data } (by simp) rfl (by simp)
            have l7 : L 7 := hd { on := 7, ground := Ground.data } (by simp) rfl (by simp)
            obtain rfl := hA (h52 (h65 l6))
            obtain ⟨A5, c5, M, rfl, hmb, hsp, hus⟩ := hB (h65 l6)
            obtain rfl := hC l6
            obtain ⟨g, cs, rfl, e2, e3, e4, e5⟩ := hD l7
            refine wp_store_mid 27 (.tmp 5) (.tmp 28) rfl g 0 _ rfl rfl (there_blk e3 (by rw [e4]; rfl)) (by kernel_rfl) (by simp [Value.oneCell']) ?_
            refine hK _ _ ⟨TracesS.mk (below_setCells g e2 _ 0 _ hS.1) HS.out, .int .i64 (tidX ts[j] j), .slice A5 M.length c5, _, .pointer (some ⟨g, 0, none⟩), ?_, fun _ => .inl (h52 (h65 l6)), fun _ => .inl (h65 l6), fun _ => ⟨.inl l6, .inl l7⟩, fun _ => rfl, fun _ => ⟨A5, c5, M, rfl, hmb, hsp.setCells (hus l7 g rfl) _ _, fun _ => hus l7⟩, fun _ => rfl, fun _ => ⟨g, _, rfl, e2, blk_setCells g 27 _ 0 W cs e3 (by rw [e4]; rfl), rfl, fun _ => rfl⟩⟩
            simp only [Act.put, List.setIfInBounds_toArray, List.set_cons_zero, List.set_cons_succ]
        · intro L A W hI ha
          obtain ⟨hS, x24, x27, x28, x5, rfl, h52, h65, h8, hA, hB, hC, hD⟩ := hI
          obtain rfl := hA (ha 2 (by simp))
          obtain ⟨A5, c5, M, rfl, hmb, hsp, _⟩ := hB (ha 5 (by simp))
          have HMB := Lib.hid hmb
          clear hmb
          obtain rfl := hC (ha 6 (by simp))
          obtain ⟨gt, cs5, rfl, g2, g3, g4, g5⟩ := hD (ha 7 (by simp))
          obtain rfl := Value.agg.inj (g5 (ha 8 (by simp)))
          obtain ⟨tid, htid⟩ : ∃ x, x = tidX ts[j] j := ⟨_, rfl⟩
          rw [← htid] at g3 hsp ⊢
          have HTI := Lib.hid htid
          clear htid
          have HSp := Lib.hid (hsp.mono HB.out.size)
          have HPP : Hid (ts[j].cs.length ≠ 0) := Lib.hid hc0
          have HB1 := Lib.hid (below_on HB.out hS.1 HB.out.size)
          have HS1 := Lib.hid (show StoryB W w.heap.size (some ad) ts.length c o0 o1 o2 o3 b m d q from blk_keep hS.1 HS.out)
          have HO1 := Lib.hid (HO.out.below hS.1)
          have hg := blk_lt g3
          have HG := Lib.hid g3
          clear h52 h65 h8 hA hB hC hD ha hHeld hsp g3 g4 g5 hS HB HS HO HTr t0 t1 t2 b0 b1 b2 b3 b4 b5 b6 z0
          simp only [Act.put, List.setIfInBounds_toArray, List.set_cons_zero, List.set_cons_succ]
          go_wp2_with fail
          go_loopw [6] (fun i wr => ∃ n : Nat, n ≤ tds.length ∧ i = .int .i64 n ∧ Hid (Below W.heap.size W wr) ∧ Hid (posX tid (tds.map TraceD.id) tds.length = posX tid (tds.map TraceD.id) n)) (fun i _ => (intOf i).toNat)
          case atStart => exact ⟨tds.length, Nat.le_refl _, rfl, Lib.hid (Below.refl _ _), Lib.hid rfl⟩
          case round =>
            obtain ⟨n, hn, rfl, HW, HP⟩ := hrel
            have y0 := cell_blk (blk_keep HW.out HG.out) 0 rfl
            by_cases hn0 : n = 0
            · subst hn0
              go_upto_region 8 with (fail)
              go_quiet (fail)
              have HW2 := Lib.hid (below_on HW.out (below_drewN0 _ nq) HW.out.size)
              generalize wr.drewN nq = W2 at *
              clear y0 HW
              go_upto_region 10 with (fail)
              have HO2 := Lib.hid (HO1.out.below HW2.out)
              have HG2 := Lib.hid (blk_keep HW2.out HG.out)
              rcases hform with ⟨rfl, hz2, rfl⟩ | ⟨g3, rfl, hc3, hm3⟩
              · try push_cast
                refine wp_region_held_drew (S := (fun W => Below W2.heap.size W2 W ∧ W.cell? ⟨gt, 0, none⟩ = some (.int .i64 tid) ∧ W.cell? ⟨gt, 1, none⟩ = some (.int .i64 1) ∧ W.cell? ⟨gt, 2, none⟩ = some (.slice A5 M.length c5))) (by kernel_rfl) ⟨below_drew _, cell_blk HG2.out 0 rfl, cell_blk HG2.out 1 rfl, cell_blk HG2.out 2 rfl⟩ (fun hHeld => ?_)
                refine take_at (i := 1) (v := ?_) rfl (by kernel_rfl) (by kernel_rfl) (by kernel_rfl) (fun _ _ _ h => h) (Or.inl ⟨by rfl, ?_⟩) hHeld ?_
                rotate_left
                · intro W hSw; (try dsimp only at hSw); go_simp; try with_reducible rfl
                try simp only [Act.put, List.setIfInBounds_toArray, List.set_cons_zero, List.set_cons_succ]
                refine take_at (i := 2) (v := ?_) rfl (by kernel_rfl) (by kernel_rfl) (by kernel_rfl) (fun _ _ _ h => h) (Or.inl ⟨by rfl, ?_⟩) hHeld ?_
                rotate_left
                · intro W hSw; (try dsimp only at hSw); go_simp; try with_reducible rfl
                try simp only [Act.put, List.setIfInBounds_toArray, List.set_cons_zero, List.set_cons_succ]
                refine take_at (i := 3) (v := ?_) rfl (by kernel_rfl) (by kernel_rfl) (by kernel_rfl) (fun _ _ _ h => h) (Or.inl ⟨by rfl, ?_⟩) hHeld ?_
                rotate_left
                · intro W hSw; (try dsimp only at hSw); go_simp; try with_reducible rfl
                try simp only [Act.put, List.setIfInBounds_toArray, List.set_cons_zero, List.set_cons_succ]
                refine take_at (i := 5) (v := ?_) rfl (by kernel_rfl) (by kernel_rfl) (by kernel_rfl) (fun _ _ _ h => h) (Or.inl ⟨by rfl, ?_⟩) hHeld ?_
                rotate_left
                · intro W hSw; (try dsimp only at hSw); go_simp; try with_reducible rfl
                try simp only [Act.put, List.setIfInBounds_toArray, List.set_cons_zero, List.set_cons_succ]
                refine take_at (i := 8) (v := ?_) rfl (by kernel_rfl) (by kernel_rfl) (by kernel_rfl) (fun _ _ _ h => h) (Or.inl ⟨by rfl, ?_⟩) hHeld ?_
                rotate_left
                · intro W hSw; (try dsimp only at hSw); go_simp; try with_reducible rfl
                try simp only [Act.put, List.setIfInBounds_toArray, List.set_cons_zero, List.set_cons_succ]
                refine take_at (i := 9) (v := ?_) rfl (by kernel_rfl) (by kernel_rfl) (by kernel_rfl) (fun _ _ _ h => h) (Or.inl ⟨by rfl, ?_⟩) hHeld ?_
                rotate_left
                · intro W hSw; (try dsimp only at hSw); go_simp; try with_reducible rfl
                try simp only [Act.put, List.setIfInBounds_toArray, List.set_cons_zero, List.set_cons_succ]
                refine take_at (i := 10) (v := ?_) rfl (by kernel_rfl) (by kernel_rfl) (by kernel_rfl) (fun _ _ _ h => h) (Or.inl ⟨by rfl, ?_⟩) hHeld ?_
                rotate_left
                · intro W hSw; (try dsimp only at hSw); go_simp; try with_reducible rfl
                try simp only [Act.put, List.setIfInBounds_toArray, List.set_cons_zero, List.set_cons_succ]
                have HX := Lib.hid (fun (W : World) (h : Below W2.heap.size W2 W) (p : Addr) (hp : (none : Option Addr) = some p) (j' : Nat) (u : Value) (hu : ((tds.take 0).flatMap TraceD.cells)[j']? = some u) => (show W.cell? (p.add j') = some u by cases hp))
                have HY := Lib.hid (fun (W : World) (h : Below W2.heap.size W2 W) (p : Addr) (hp : (none : Option Addr) = some p) (j' : Nat) (u : Value) (hu : ((tds.drop 0).flatMap TraceD.cells)[j']? = some u) => (show W.cell? (p.add j') = some u by cases hp))
                have HSm := Lib.hid (fun (W : World) (h : Below W2.heap.size W2 W) => (show Below W2.heap.size W2 W ∧ W.cell? ⟨gt, 0, none⟩ = some (.int .i64 tid) ∧ W.cell? ⟨gt, 1, none⟩ = some (.int .i64 1) ∧ W.cell? ⟨gt, 2, none⟩ = some (.slice A5 M.length c5) from have hb := (h.block _ (blk_lt HG2.out)).trans HG2.out; ⟨h, cell_blk hb 0 rfl, cell_blk hb 1 rfl, cell_blk hb 2 rfl⟩))
                have hxl : ((tds.take (0)).flatMap TraceD.cells).length = (0) * 3 := by rw [flatT_length, List.length_take, Nat.min_eq_left (by omega)]
                have hyl : ((tds.drop (0)).flatMap TraceD.cells).length = (0) * 3 := by rw [flatT_length, List.length_drop] <;> first | rfl | omega
                have hm2 : (0) + (0) = tds.length := by omega
                have HM2 := Lib.hid hm2
                have hn3x : (0) ≤ 3 := by omega
                have hMM : (0) ≤ 3 := by omega
                clear hm2
                try clear hz2
                refine wpAnyH_rest [0, 4, 6, 7, 11, 12] (AppI (fun W => Below W2.heap.size W2 W ∧ W.cell? ⟨gt, 0, none⟩ = some (.int .i64 tid) ∧ W.cell? ⟨gt, 1, none⟩ = some (.int .i64 1) ∧ W.cell? ⟨gt, 2, none⟩ = some (.slice A5 M.length c5)) W2.heap.size (0) (0) ((tds.take (0)).flatMap TraceD.cells) ([Value.int .i64 tid, .int .i64 1, .slice A5 M.length c5]) ((tds.drop (0)).flatMap TraceD.cells)) (by kernel_rfl) rfl (by kernel_rfl) (by kernel_rfl) (by kernel_rfl) ?_ (fun _ _ _ h => h.1) ?_ ?_
                · intro L hL
                  have g : ∀ k ∈ [0, 4, 6, 7, 11, 12], L k → False := fun k hk h => hL k hk h
                  refine ⟨hHeld, ?x46n, ?x50n, ?x52n, ?x53n, ?x57n, ?x3n, ?eqn, hHeld.1.size, fun h => (g 4 (by simp) h).elim, fun h => (g 7 (by simp) h).elim, fun h => (g 11 (by simp) h).elim, fun h => (g 12 (by simp) h).elim, fun h => (g 0 (by simp) h).elim, fun h => (g 4 (by simp) h).elim, fun h => (g 6 (by simp) h).elim, fun h => (g 7 (by simp) h).elim, fun h => (g 11 (by simp) h).elim, fun h => (g 12 (by simp) h).elim⟩
                  case eqn =>
                    simp only [Act.put, List.setIfInBounds_toArray, List.set_cons_zero, List.set_cons_succ]
                    try rfl
                · intro i0 hi0
                  simp only [List.mem_cons, List.not_mem_nil, or_false] at hi0
                  rcases hi0 with rfl | rfl | rfl | rfl | rfl | rfl
                  · intro L A W o hI ho hn hd
                    obtain rfl := Option.some.inj (show some _ = some o from nth_of ho)
                    obtain ⟨hS, x46, x50, x52, x53, x57, x3, rfl, hsz, h4, h7, h11, h12, hA, hB, hC, hD, hE, hF⟩ := hI
                    simp only [Act.put, List.setIfInBounds_toArray, List.set_cons_zero, List.set_cons_succ]
                    refine wpOp_step (nth_at rfl) (fun K hK => ?_)
                    rw [if_pos (by rfl)]
                    have n4 : ¬ L 4 := fun h => hn (h4 h)
                    go_simp
                    refine hK _ _ ⟨HSm.out _ (below_on hS.1 (below_alloc _ _) hS.1.size), .slice (some ⟨W.heap.size, 0, none⟩) 0 0, x50, x52, x53, x57, x3, ?_, by simp; omega, fun h => absurd (h.resolve_right (by decide)) n4, fun h => absurd (h7 (h.resolve_right (by decide))).1 n4, fun h => absurd (h7 (h11 (h.resolve_right (by decide)))).1 n4, fun h => absurd (h7 (h11 (h12 (h.resolve_right (by decide))))).1 n4, fun _ _ => World.ownsRow_made W #[] 0 hsz (Nat.zero_le _) rfl, fun h => absurd (h.resolve_right (by decide)) n4, fun h h' => ?_, fun h => absurd (h7 (h.resolve_right (by decide))).1 n4, fun h => absurd (h7 (h11 (h.resolve_right (by decide)))).1 n4, fun h => absurd (h7 (h11 (h12 (h.resolve_right (by decide))))).1 n4⟩
                    · simp only [Act.put, List.setIfInBounds_toArray, List.set_cons_zero, List.set_cons_succ]
                    · obtain ⟨g, e1, e2, e3, e4⟩ := hC (h.resolve_right (by decide)) (fun l => h' (.inl l))
                      refine ⟨g, e1, heap_alloc_old e2, fun _ _ he => ?_, fun h => absurd (h.resolve_right (by decide)) n4⟩
                      have := blk_lt e2
                      simp [Value.ownBlock] at he
                      omega
                  · intro L A W o hI ho hn hd
                    obtain rfl := Option.some.inj (show some _ = some o from nth_of ho)
                    obtain ⟨hS, x46, x50, x52, x53, x57, x3, rfl, hsz, h4, h7, h11, h12, hA, hB, hC, hD, hE, hF⟩ := hI
                    simp only [Act.put, List.setIfInBounds_toArray, List.set_cons_zero, List.set_cons_succ]
                    refine wpOp_step (nth_at rfl) (fun K hK => ?_)
                    rw [if_pos (by rfl)]
                    have l0 : L 0 := hd { on := 0, ground := Ground.data } (by simp) rfl (by simp)
                    have n7 : ¬ L 7 := fun h => hn (h7 h).1
                    have o46 := hA l0 hn
                    refine wp_append_any (.tmp 46) (.tmp 49) 42 rfl W2.heap.size 27 t3 z3 3 Tryz.underlying42 ht3 ht3z ht3s ht3b ht3c (by decide) x46 0 [] rfl o46 (none) (0) (0) ((tds.take (0)).flatMap TraceD.cells) rfl hxl (by intro h; first | exact ⟨rfl, rfl⟩ | cases h) (HX.out _ hS.1) (flatT_one _) (by omega) hsz ?_
                    intro v' w1 hown hgr hat
                    have hbw := below_grown hS.1 hgr (fun i hi => (o46.lt i hi).1) hS.1.size
                    have hgs := hgr.size
                    rw [Nat.zero_add, List.nil_append] at hown
                    refine hK _ _ ⟨HSm.out _ hbw, x46, v', x52, x53, x57, x3, ?_, by omega, fun _ => .inl l0, fun h => absurd (h.resolve_right (by decide)) n7, fun h => absurd (h11 (h.resolve_right (by decide))) n7, fun h => absurd (h11 (h12 (h.resolve_right (by decide)))) n7, fun _ h => absurd (.inr rfl) h, fun _ _ => hown, fun h _ => ?_, fun h => absurd (h.resolve_right (by decide)) n7, fun h => absurd (h11 (h.resolve_right (by decide))) n7, fun h => absurd (h11 (h12 (h.resolve_right (by decide)))) n7⟩
                    · simp only [Act.put, List.setIfInBounds_toArray, List.set_cons_zero, List.set_cons_succ]
                    · obtain ⟨g, e1, e2, e3, e4⟩ := hC (h.resolve_right (by decide)) n7
                      refine ⟨g, e1, blk_grown hgr e2 (e3 l0 hn), fun _ h => absurd (.inr rfl) h, fun _ he => ?_⟩
                      rcases hat with h | h
                      · exact e3 l0 hn (h.symm.trans he)
                      · have := blk_lt e2
                        have := Option.some.inj (h.symm.trans he)
                        omega
                  · intro L A W o hI ho hn hd
                    obtain rfl := Option.some.inj (show some _ = some o from nth_of ho)
                    obtain ⟨hS, x46, x50, x52, x53, x57, x3, rfl, hsz, h4, h7, h11, h12, hA, hB, hC, hD, hE, hF⟩ := hI
                    simp only [Act.put, List.setIfInBounds_toArray, List.set_cons_zero, List.set_cons_succ]
                    refine wpOp_step (nth_at rfl) (fun K hK => ?_)
                    rw [if_pos (by rfl)]
                    have n7 : ¬ L 7 := fun h => hn (h7 h).2
                    go_simp
                    refine hK _ _ ⟨HSm.out _ (below_on hS.1 (below_alloc _ _) hS.1.size), x46, x50, .slice (some ⟨W.heap.size, 0, none⟩) 1 1, x53, x57, x3, ?_, by simp; omega, fun h => .inl (h4 (h.resolve_right (by decide))), fun h => absurd (h.resolve_right (by decide)) n7, fun h => absurd (h11 (h.resolve_right (by decide))) n7, fun h => absurd (h11 (h12 (h.resolve_right (by decide)))) n7, fun h h' => (hA (h.resolve_right (by decide)) (fun l => h' (.inl l))).alloc _, fun h _ => (hB (h.resolve_right (by decide)) n7).alloc _, fun _ _ => ⟨W.heap.size, rfl, heap_alloc_last _ _, fun h h' he => ?_, fun h he => ?_⟩, fun h => absurd (h.resolve_right (by decide)) n7, fun h => absurd (h11 (h.resolve_right (by decide))) n7, fun h => absurd (h11 (h12 (h.resolve_right (by decide)))) n7⟩
                    · simp only [Act.put, List.setIfInBounds_toArray, List.set_cons_zero, List.set_cons_succ]
                    · have := ((hA (h.resolve_right (by decide)) (fun l => h' (.inl l))).lt _ he).2
                      omega
                    · have := ((hB (h.resolve_right (by decide)) n7).lt _ he).2
                      omega
                  · intro L A W o hI ho hn hd
                    obtain rfl := Option.some.inj (show some _ = some o from nth_of ho)
                    obtain ⟨hS, x46, x50, x52, x53, x57, x3, rfl, hsz, h4, h7, h11, h12, hA, hB, hC, hD, hE, hF⟩ := hI
                    simp only [Act.put, List.setIfInBounds_toArray, List.set_cons_zero, List.set_cons_succ]
                    refine wpOp_step (nth_at rfl) (fun K hK => ?_)
                    rw [if_pos (by rfl)]
                    have l4 : L 4 := hd { on := 4, ground := Ground.data } (by simp) rfl (by simp)
                    have l6 : L 6 := hd { on := 6, ground := Ground.data } (by simp) rfl (by simp)
                    have n11 : ¬ L 11 := fun h => hn (h11 h)
                    have o50 := hB l4 hn
                    obtain ⟨g, rfl, e2, e3, e4⟩ := hC l6 hn
                    refine wp_append_any (.tmp 50) (.tmp 52) 42 rfl W2.heap.size 27 t3 z3 3 Tryz.underlying42 ht3 ht3z ht3s ht3b ht3c (by decide) x50 (0) ((tds.take (0)).flatMap TraceD.cells) rfl o50 (some ⟨g, 0, none⟩) 1 1 ([Value.int .i64 tid, .int .i64 1, .slice A5 M.length c5]) rfl rfl (fun h => by cases h) (fun p hp => by cases hp; exact World.news_of_block e2) (by simp [Value.oneCell']) (by omega) hsz ?_
                    intro v' w1 hown hgr hat
                    have hbw := below_grown hS.1 hgr (fun i hi => (o50.lt i hi).1) hS.1.size
                    have hgs := hgr.size
                    refine hK _ _ ⟨HSm.out _ hbw, x46, x50, .slice (some ⟨g, 0, none⟩) 1 1, v', x57, x3, ?_, by omega, fun h => .inl (h4 (h.resolve_right (by decide))), fun _ => ⟨.inl l4, .inl l6⟩, fun h => absurd (h.resolve_right (by decide)) n11, fun h => absurd (h12 (h.resolve_right (by decide))) n11, fun _ h => absurd (.inl l4) h, fun _ h => absurd (.inr rfl) h, fun _ h => absurd (.inr rfl) h, fun _ _ => hown, fun h => absurd (h.resolve_right (by decide)) n11, fun h => absurd (h12 (h.resolve_right (by decide))) n11⟩
                    simp only [Act.put, List.setIfInBounds_toArray, List.set_cons_zero, List.set_cons_succ]
                  · intro L A W o hI ho hn hd
                    obtain rfl := Option.some.inj (show some _ = some o from nth_of ho)
                    obtain ⟨hS, x46, x50, x52, x53, x57, x3, rfl, hsz, h4, h7, h11, h12, hA, hB, hC, hD, hE, hF⟩ := hI
                    simp only [Act.put, List.setIfInBounds_toArray, List.set_cons_zero, List.set_cons_succ]
                    refine wpOp_step (nth_at rfl) (fun K hK => ?_)
                    rw [if_pos (by rfl)]
                    have l7 : L 7 := hd { on := 7, ground := Ground.data } (by simp) rfl (by simp)
                    have l4 := (h7 l7).1
                    have n12 : ¬ L 12 := fun h => hn (h12 h)
                    have o53 := hD l7 hn
                    refine wp_append_any (.tmp 53) (.tmp 56) 42 rfl W2.heap.size 27 t3 z3 3 Tryz.underlying42 ht3 ht3z ht3s ht3b ht3c (by decide) x53 (0 + 1) ((tds.take (0)).flatMap TraceD.cells ++ [Value.int .i64 tid, .int .i64 1, .slice A5 M.length c5]) rfl o53 (none) (0) (0) ((tds.drop (0)).flatMap TraceD.cells) rfl hyl (by intro h; first | exact ⟨rfl, rfl⟩ | (split at h <;> cases h) | cases h) (HY.out _ hS.1) (flatT_one _) (by omega) hsz ?_
                    intro v' w1 hown hgr hat
                    have hbw := below_grown hS.1 hgr (fun i hi => (o53.lt i hi).1) hS.1.size
                    have hgs := hgr.size
                    refine hK _ _ ⟨HSm.out _ hbw, x46, x50, x52, x53, v', x3, ?_, by omega, fun h => .inl (h4 (h.resolve_right (by decide))), fun _ => ⟨.inl l4, .inl (h7 l7).2⟩, fun _ => .inl l7, fun h => absurd (h.resolve_right (by decide)) n12, fun _ h => absurd (.inl l4) h, fun _ h => absurd (.inl l7) h, fun _ h => absurd (.inl l7) h, fun _ h => absurd (.inr rfl) h, fun _ => hown, fun h => absurd (h.resolve_right (by decide)) n12⟩
                    simp only [Act.put, List.setIfInBounds_toArray, List.set_cons_zero, List.set_cons_succ]
                  · intro L A W o hI ho hn hd
                    obtain rfl := Option.some.inj (show some _ = some o from nth_of ho)
                    obtain ⟨hS, x46, x50, x52, x53, x57, x3, rfl, hsz, h4, h7, h11, h12, hA, hB, hC, hD, hE, hF⟩ := hI
                    simp only [Act.put, List.setIfInBounds_toArray, List.set_cons_zero, List.set_cons_succ]
                    refine wpOp_step (nth_at rfl) (fun K hK => ?_)
                    rw [if_pos (by rfl)]
                    have l11 : L 11 := hd { on := 11, ground := Ground.data } (by simp) rfl (by simp)
                    have l7 := h11 l11
                    have l4 := (h7 l7).1
                    go_simp
                    refine hK _ _ ⟨hS, x46, x50, x52, x53, x57, x57, ?_, hsz, fun h => .inl (h4 (h.resolve_right (by decide))), fun _ => ⟨.inl l4, .inl (h7 l7).2⟩, fun _ => .inl l7, fun _ => .inl l11, fun _ h => absurd (.inl l4) h, fun _ h => absurd (.inl l7) h, fun _ h => absurd (.inl l7) h, fun _ h => absurd (.inl l11) h, fun _ => hE l11, fun _ => rfl⟩
                    simp only [Act.put, List.setIfInBounds_toArray, List.set_cons_zero, List.set_cons_succ]
                · intro L A W9 hI ha
                  obtain ⟨hS, x46, x50, x52, x53, x57, x3, rfl, hsz, h4, h7, h11, h12, hA, hB, hC, hD, hE, hF⟩ := hI
                  obtain rfl := hF (ha 12 (by simp))
                  have hr := hE (ha 11 (by simp))
                  have hBW := hS.1
                  clear h4 h7 h11 h12 hA hB hC hD hE hF ha hHeld hS
                  have hm2 := HM2.out
                  have hl9 : (tds.take (0) ++ ([⟨tid, 1, A5, c5, M⟩] : List TraceD) ++ tds.drop (0)).length = (0) + 1 + (0) := by simp only [List.length_append, List.length_take, List.length_drop, List.length_cons, List.length_nil]; omega
                  have HO9 := Lib.hid (show OutT (w.heap.size + 1) w.heap.size x3 (tds.take (0) ++ ([⟨tid, 1, A5, c5, M⟩] : List TraceD) ++ tds.drop (0)) W9 from ⟨by
                    rw [hl9, List.flatMap_append, List.flatMap_append, List.flatMap_cons, List.flatMap_nil, List.append_nil]
                    exact row_mono hr (Nat.succ_le_of_lt (blk_lt (blk_keep HW2.out HS1.out))), fun t ht => by
                    simp only [List.mem_append, List.mem_cons, List.not_mem_nil, or_false] at ht
                    rcases ht with (ht | rfl) | ht
                    · exact own_apart (HO2.out.2 t (List.mem_of_mem_take ht)).1 hBW hr
                    · exact own_apart (HSp.out.below HW2.out) hBW hr
                    · exact own_apart (HO2.out.2 t (List.mem_of_mem_drop ht)).1 hBW hr⟩)
                  have HB9 := Lib.hid (below_on (below_on HB1.out HW2.out HB1.out.size) hBW (below_on HB1.out HW2.out HB1.out.size).size)
                  have HS9 := Lib.hid (show StoryB W9 w.heap.size (some ad) ts.length c o0 o1 o2 o3 b m d q from blk_keep hBW (blk_keep HW2.out HS1.out))
                  clear hr hBW
                  simp only [Act.put, List.setIfInBounds_toArray, List.set_cons_zero, List.set_cons_succ]
                  go_wp2_with fail
                  exact ⟨⟨j + 1, _, by omega, by rw [hl9]; omega, by go_num, HB9, HS9, HO9, Lib.hid (by rw [HTI.out]; exact tracesN_ins hlt HPP.out HV.out HMB.out (HTI.out ▸ HP.out))⟩, by simp [intOf]; omega⟩
              · have hnl : (0 : Int) ≤ (tds.length : Int) := by omega
                have hn0' : (0 : Int) ≤ (0 : Int) := by omega
                have e2' : (tds.length : Int) ≤ (c3 : Int) := by omega
                have e3' : (0 : Int) ≤ (c3 : Int) := by omega
                try push_cast
                refine wp_region_held_drew (S := (fun W => Below W2.heap.size W2 W ∧ W.cell? ⟨gt, 0, none⟩ = some (.int .i64 tid) ∧ W.cell? ⟨gt, 1, none⟩ = some (.int .i64 1) ∧ W.cell? ⟨gt, 2, none⟩ = some (.slice A5 M.length c5))) (by kernel_rfl) ⟨below_drew _, cell_blk HG2.out 0 rfl, cell_blk HG2.out 1 rfl, cell_blk HG2.out 2 rfl⟩ (fun hHeld => ?_)
                refine take_at (i := 1) (v := ?_) rfl (by kernel_rfl) (by kernel_rfl) (by kernel_rfl) (fun _ _ _ h => h) (Or.inl ⟨by rfl, ?_⟩) hHeld ?_
                rotate_left
                · intro W hSw; (try dsimp only at hSw); go_simp; try with_reducible rfl
                try simp only [Act.put, List.setIfInBounds_toArray, List.set_cons_zero, List.set_cons_succ]
                refine take_at (i := 2) (v := ?_) rfl (by kernel_rfl) (by kernel_rfl) (by kernel_rfl) (fun _ _ _ h => h) (Or.inl ⟨by rfl, ?_⟩) hHeld ?_
                rotate_left
                · intro W hSw; (try dsimp only at hSw); go_simp; try with_reducible rfl
                try simp only [Act.put, List.setIfInBounds_toArray, List.set_cons_zero, List.set_cons_succ]
                refine take_at (i := 3) (v := ?_) rfl (by kernel_rfl) (by kernel_rfl) (by kernel_rfl) (fun _ _ _ h => h) (Or.inl ⟨by rfl, ?_⟩) hHeld ?_
                rotate_left
                · intro W hSw; (try dsimp only at hSw); go_simp; try with_reducible rfl
                try simp only [Act.put, List.setIfInBounds_toArray, List.set_cons_zero, List.set_cons_succ]
                refine take_at (i := 5) (v := ?_) rfl (by kernel_rfl) (by kernel_rfl) (by kernel_rfl) (fun _ _ _ h => h) (Or.inl ⟨by rfl, ?_⟩) hHeld ?_
                rotate_left
                · intro W hSw; (try dsimp only at hSw); go_simp; try with_reducible rfl
                try simp only [Act.put, List.setIfInBounds_toArray, List.set_cons_zero, List.set_cons_succ]
                refine take_at (i := 8) (v := ?_) rfl (by kernel_rfl) (by kernel_rfl) (by kernel_rfl) (fun _ _ _ h => h) (Or.inl ⟨by rfl, ?_⟩) hHeld ?_
                rotate_left
                · intro W hSw; (try dsimp only at hSw); go_simp; try with_reducible rfl
                try simp only [Act.put, List.setIfInBounds_toArray, List.set_cons_zero, List.set_cons_succ]
                refine take_at (i := 9) (v := ?_) rfl (by kernel_rfl) (by kernel_rfl) (by kernel_rfl) (fun _ _ _ h => h) (Or.inl ⟨by rfl, ?_⟩) hHeld ?_
                rotate_left
                · intro W hSw; (try dsimp only at hSw); go_simp; try with_reducible rfl
                try simp only [Act.put, List.setIfInBounds_toArray, List.set_cons_zero, List.set_cons_succ]
                refine take_at (i := 10) (v := ?_) rfl (by kernel_rfl) (by kernel_rfl) (by kernel_rfl) (fun _ _ _ h => h) (Or.inl ⟨by rfl, ?_⟩) hHeld ?_
                rotate_left
                · intro W hSw; (try dsimp only at hSw); go_simp; try with_reducible rfl
                try simp only [Act.put, List.setIfInBounds_toArray, List.set_cons_zero, List.set_cons_succ]
                have HX := Lib.hid (fun (W : World) (h : Below W2.heap.size W2 W) => out_take (n := 0) (HO2.out.below h))
                have HY := Lib.hid (fun (W : World) (h : Below W2.heap.size W2 W) => fun p hp j u hu => out_take (n := tds.length) (HO2.out.below h) p hp j u (by rw [List.take_length]; exact hu))
                have HSm := Lib.hid (fun (W : World) (h : Below W2.heap.size W2 W) => (show Below W2.heap.size W2 W ∧ W.cell? ⟨gt, 0, none⟩ = some (.int .i64 tid) ∧ W.cell? ⟨gt, 1, none⟩ = some (.int .i64 1) ∧ W.cell? ⟨gt, 2, none⟩ = some (.slice A5 M.length c5) from have hb := (h.block _ (blk_lt HG2.out)).trans HG2.out; ⟨h, cell_blk hb 0 rfl, cell_blk hb 1 rfl, cell_blk hb 2 rfl⟩))
                have hxl : ((tds.take (0)).flatMap TraceD.cells).length = (0) * 3 := by rw [flatT_length, List.length_take, Nat.min_eq_left (by omega)]
                have hyl : ((tds.drop (0)).flatMap TraceD.cells).length = (tds.length) * 3 := by rw [flatT_length, List.length_drop] <;> first | rfl | omega
                have hm2 : (0) + (tds.length) = tds.length := by omega
                have HM2 := Lib.hid hm2
                have hn3x : (0) ≤ 3 := by omega
                have hMM : (tds.length) ≤ 3 := by omega
                clear hm2
                try clear hz2
                refine wpAnyH_rest [0, 4, 6, 7, 11, 12] (AppI (fun W => Below W2.heap.size W2 W ∧ W.cell? ⟨gt, 0, none⟩ = some (.int .i64 tid) ∧ W.cell? ⟨gt, 1, none⟩ = some (.int .i64 1) ∧ W.cell? ⟨gt, 2, none⟩ = some (.slice A5 M.length c5)) W2.heap.size (0) (tds.length) ((tds.take (0)).flatMap TraceD.cells) ([Value.int .i64 tid, .int .i64 1, .slice A5 M.length c5]) ((tds.drop (0)).flatMap TraceD.cells)) (by kernel_rfl) rfl (by kernel_rfl) (by kernel_rfl) (by kernel_rfl) ?_ (fun _ _ _ h => h.1) ?_ ?_
                · intro L hL
                  have g : ∀ k ∈ [0, 4, 6, 7, 11, 12], L k → False := fun k hk h => hL k hk h
                  refine ⟨hHeld, ?x46s, ?x50s, ?x52s, ?x53s, ?x57s, ?x3s, ?eqs, hHeld.1.size, fun h => (g 4 (by simp) h).elim, fun h => (g 7 (by simp) h).elim, fun h => (g 11 (by simp) h).elim, fun h => (g 12 (by simp) h).elim, fun h => (g 0 (by simp) h).elim, fun h => (g 4 (by simp) h).elim, fun h => (g 6 (by simp) h).elim, fun h => (g 7 (by simp) h).elim, fun h => (g 11 (by simp) h).elim, fun h => (g 12 (by simp) h).elim⟩
                  case eqs =>
                    simp only [Act.put, List.setIfInBounds_toArray, List.set_cons_zero, List.set_cons_succ]
                    try rfl
                · intro i0 hi0
                  simp only [List.mem_cons, List.not_mem_nil, or_false] at hi0
                  rcases hi0 with rfl | rfl | rfl | rfl | rfl | rfl
                  · intro L A W o hI ho hn hd
                    obtain rfl := Option.some.inj (show some _ = some o from nth_of ho)
                    obtain ⟨hS, x46, x50, x52, x53, x57, x3, rfl, hsz, h4, h7, h11, h12, hA, hB, hC, hD, hE, hF⟩ := hI
                    simp only [Act.put, List.setIfInBounds_toArray, List.set_cons_zero, List.set_cons_succ]
                    refine wpOp_step (nth_at rfl) (fun K hK => ?_)
                    rw [if_pos (by rfl)]
                    have n4 : ¬ L 4 := fun h => hn (h4 h)
                    go_simp
                    refine hK _ _ ⟨HSm.out _ (below_on hS.1 (below_alloc _ _) hS.1.size), .slice (some ⟨W.heap.size, 0, none⟩) 0 0, x50, x52, x53, x57, x3, ?_, by simp; omega, fun h => absurd (h.resolve_right (by decide)) n4, fun h => absurd (h7 (h.resolve_right (by decide))).1 n4, fun h => absurd (h7 (h11 (h.resolve_right (by decide)))).1 n4, fun h => absurd (h7 (h11 (h12 (h.resolve_right (by decide))))).1 n4, fun _ _ => World.ownsRow_made W #[] 0 hsz (Nat.zero_le _) rfl, fun h => absurd (h.resolve_right (by decide)) n4, fun h h' => ?_, fun h => absurd (h7 (h.resolve_right (by decide))).1 n4, fun h => absurd (h7 (h11 (h.resolve_right (by decide)))).1 n4, fun h => absurd (h7 (h11 (h12 (h.resolve_right (by decide))))).1 n4⟩
                    · simp only [Act.put, List.setIfInBounds_toArray, List.set_cons_zero, List.set_cons_succ]
                    · obtain ⟨g, e1, e2, e3, e4⟩ := hC (h.resolve_right (by decide)) (fun l => h' (.inl l))
                      refine ⟨g, e1, heap_alloc_old e2, fun _ _ he => ?_, fun h => absurd (h.resolve_right (by decide)) n4⟩
                      have := blk_lt e2
                      simp [Value.ownBlock] at he
                      omega
                  · intro L A W o hI ho hn hd
                    obtain rfl := Option.some.inj (show some _ = some o from nth_of ho)
                    obtain ⟨hS, x46, x50, x52, x53, x57, x3, rfl, hsz, h4, h7, h11, h12, hA, hB, hC, hD, hE, hF⟩ := hI
                    simp only [Act.put, List.setIfInBounds_toArray, List.set_cons_zero, List.set_cons_succ]
                    refine wpOp_step (nth_at rfl) (fun K hK => ?_)
                    rw [if_pos (by rfl)]
                    have l0 : L 0 := hd { on := 0, ground := Ground.data } (by simp) rfl (by simp)
                    have n7 : ¬ L 7 := fun h => hn (h7 h).1
                    have o46 := hA l0 hn
                    refine wp_append_any (.tmp 46) (.tmp 49) 42 rfl W2.heap.size 27 t3 z3 3 Tryz.underlying42 ht3 ht3z ht3s ht3b ht3c (by decide) x46 0 [] rfl o46 (some ⟨g3, 0, none⟩) (0) (c3) ((tds.take (0)).flatMap TraceD.cells) rfl hxl (by intro h; first | exact ⟨rfl, rfl⟩ | cases h) (HX.out _ hS.1) (flatT_one _) (by omega) hsz ?_
                    intro v' w1 hown hgr hat
                    have hbw := below_grown hS.1 hgr (fun i hi => (o46.lt i hi).1) hS.1.size
                    have hgs := hgr.size
                    rw [Nat.zero_add, List.nil_append] at hown
                    refine hK _ _ ⟨HSm.out _ hbw, x46, v', x52, x53, x57, x3, ?_, by omega, fun _ => .inl l0, fun h => absurd (h.resolve_right (by decide)) n7, fun h => absurd (h11 (h.resolve_right (by decide))) n7, fun h => absurd (h11 (h12 (h.resolve_right (by decide)))) n7, fun _ h => absurd (.inr rfl) h, fun _ _ => hown, fun h _ => ?_, fun h => absurd (h.resolve_right (by decide)) n7, fun h => absurd (h11 (h.resolve_right (by decide))) n7, fun h => absurd (h11 (h12 (h.resolve_right (by decide)))) n7⟩
                    · simp only [Act.put, List.setIfInBounds_toArray, List.set_cons_zero, List.set_cons_succ]
                    · obtain ⟨g, e1, e2, e3, e4⟩ := hC (h.resolve_right (by decide)) n7
                      refine ⟨g, e1, blk_grown hgr e2 (e3 l0 hn), fun _ h => absurd (.inr rfl) h, fun _ he => ?_⟩
                      rcases hat with h | h
                      · exact e3 l0 hn (h.symm.trans he)
                      · have := blk_lt e2
                        have := Option.some.inj (h.symm.trans he)
                        omega
                  · intro L A W o hI ho hn hd
                    obtain rfl := Option.some.inj (show some _ = some o from nth_of ho)
                    obtain ⟨hS, x46, x50, x52, x53, x57, x3, rfl, hsz, h4, h7, h11, h12, hA, hB, hC, hD, hE, hF⟩ := hI
                    simp only [Act.put, List.setIfInBounds_toArray, List.set_cons_zero, List.set_cons_succ]
                    refine wpOp_step (nth_at rfl) (fun K hK => ?_)
                    rw [if_pos (by rfl)]
                    have n7 : ¬ L 7 := fun h => hn (h7 h).2
                    go_simp
                    refine hK _ _ ⟨HSm.out _ (below_on hS.1 (below_alloc _ _) hS.1.size), x46, x50, .slice (some ⟨W.heap.size, 0, none⟩) 1 1, x53, x57, x3, ?_, by simp; omega, fun h => .inl (h4 (h.resolve_right (by decide))), fun h => absurd (h.resolve_right (by decide)) n7, fun h => absurd (h11 (h.resolve_right (by decide))) n7, fun h => absurd (h11 (h12 (h.resolve_right (by decide)))) n7, fun h h' => (hA (h.resolve_right (by decide)) (fun l => h' (.inl l))).alloc _, fun h _ => (hB (h.resolve_right (by decide)) n7).alloc _, fun _ _ => ⟨W.heap.size, rfl, heap_alloc_last _ _, fun h h' he => ?_, fun h he => ?_⟩, fun h => absurd (h.resolve_right (by decide)) n7, fun h => absurd (h11 (h.resolve_right (by decide))) n7, fun h => absurd (h11 (h12 (h.resolve_right (by decide)))) n7⟩
                    · simp only [Act.put, List.setIfInBounds_toArray, List.set_cons_zero, List.set_cons_succ]
                    · have := ((hA (h.resolve_right (by decide)) (fun l => h' (.inl l))).lt _ he).2
                      omega
                    · have := ((hB (h.resolve_right (by decide)) n7).lt _ he).2
                      omega
                  · intro L A W o hI ho hn hd
                    obtain rfl := Option.some.inj (show some _ = some o from nth_of ho)
                    obtain ⟨hS, x46, x50, x52, x53, x57, x3, rfl, hsz, h4, h7, h11, h12, hA, hB, hC, hD, hE, hF⟩ := hI
                    simp only [Act.put, List.setIfInBounds_toArray, List.set_cons_zero, List.set_cons_succ]
                    refine wpOp_step (nth_at rfl) (fun K hK => ?_)
                    rw [if_pos (by rfl)]
                    have l4 : L 4 := hd { on := 4, ground := Ground.data } (by simp) rfl (by simp)
                    have l6 : L 6 := hd { on := 6, ground := Ground.data } (by simp) rfl (by simp)
                    have n11 : ¬ L 11 := fun h => hn (h11 h)
                    have o50 := hB l4 hn
                    obtain ⟨g, rfl, e2, e3, e4⟩ := hC l6 hn
                    refine wp_append_any (.tmp 50) (.tmp 52) 42 rfl W2.heap.size 27 t3 z3 3 Tryz.underlying42 ht3 ht3z ht3s ht3b ht3c (by decide) x50 (0) ((tds.take (0)).flatMap TraceD.cells) rfl o50 (some ⟨g, 0, none⟩) 1 1 ([Value.int .i64 tid, .int .i64 1, .slice A5 M.length c5]) rfl rfl (fun h => by cases h) (fun p hp => by cases hp; exact World.news_of_block e2) (by simp [Value.oneCell']) (by omega) hsz ?_
                    intro v' w1 hown hgr hat
                    have hbw := below_grown hS.1 hgr (fun i hi => (o50.lt i hi).1) hS.1.size
                    have hgs := hgr.size
                    refine hK _ _ ⟨HSm.out _ hbw, x46, x50, .slice (some ⟨g, 0, none⟩) 1 1, v', x57, x3, ?_, by omega, fun h => .inl (h4 (h.resolve_right (by decide))), fun _ => ⟨.inl l4, .inl l6⟩, fun h => absurd (h.resolve_right (by decide)) n11, fun h => absurd (h12 (h.resolve_right (by decide))) n11, fun _ h => absurd (.inl l4) h, fun _ h => absurd (.inr rfl) h, fun _ h => absurd (.inr rfl) h, fun _ _ => hown, fun h => absurd (h.resolve_right (by decide)) n11, fun h => absurd (h12 (h.resolve_right (by decide))) n11⟩
                    simp only [Act.put, List.setIfInBounds_toArray, List.set_cons_zero, List.set_cons_succ]
                  · intro L A W o hI ho hn hd
                    obtain rfl := Option.some.inj (show some _ = some o from nth_of ho)
                    obtain ⟨hS, x46, x50, x52, x53, x57, x3, rfl, hsz, h4, h7, h11, h12, hA, hB, hC, hD, hE, hF⟩ := hI
                    simp only [Act.put, List.setIfInBounds_toArray, List.set_cons_zero, List.set_cons_succ]
                    refine wpOp_step (nth_at rfl) (fun K hK => ?_)
                    rw [if_pos (by rfl)]
                    have l7 : L 7 := hd { on := 7, ground := Ground.data } (by simp) rfl (by simp)
                    have l4 := (h7 l7).1
                    have n12 : ¬ L 12 := fun h => hn (h12 h)
                    have o53 := hD l7 hn
                    refine wp_append_any (.tmp 53) (.tmp 56) 42 rfl W2.heap.size 27 t3 z3 3 Tryz.underlying42 ht3 ht3z ht3s ht3b ht3c (by decide) x53 (0 + 1) ((tds.take (0)).flatMap TraceD.cells ++ [Value.int .i64 tid, .int .i64 1, .slice A5 M.length c5]) rfl o53 (some ⟨g3, 0, none⟩) (tds.length) (c3) ((tds.drop (0)).flatMap TraceD.cells) rfl hyl (by intro h; first | exact ⟨rfl, rfl⟩ | (split at h <;> cases h) | cases h) (HY.out _ hS.1) (flatT_one _) (by omega) hsz ?_
                    intro v' w1 hown hgr hat
                    have hbw := below_grown hS.1 hgr (fun i hi => (o53.lt i hi).1) hS.1.size
                    have hgs := hgr.size
                    refine hK _ _ ⟨HSm.out _ hbw, x46, x50, x52, x53, v', x3, ?_, by omega, fun h => .inl (h4 (h.resolve_right (by decide))), fun _ => ⟨.inl l4, .inl (h7 l7).2⟩, fun _ => .inl l7, fun h => absurd (h.resolve_right (by decide)) n12, fun _ h => absurd (.inl l4) h, fun _ h => absurd (.inl l7) h, fun _ h => absurd (.inl l7) h, fun _ h => absurd (.inr rfl) h, fun _ => hown, fun h => absurd (h.resolve_right (by decide)) n12⟩
                    simp only [Act.put, List.setIfInBounds_toArray, List.set_cons_zero, List.set_cons_succ]
                  · intro L A W o hI ho hn hd
                    obtain rfl := Option.some.inj (show some _ = some o from nth_of ho)
                    obtain ⟨hS, x46, x50, x52, x53, x57, x3, rfl, hsz, h4, h7, h11, h12, hA, hB, hC, hD, hE, hF⟩ := hI
                    simp only [Act.put, List.setIfInBounds_toArray, List.set_cons_zero, List.set_cons_succ]
                    refine wpOp_step (nth_at rfl) (fun K hK => ?_)
                    rw [if_pos (by rfl)]
                    have l11 : L 11 := hd { on := 11, ground := Ground.data } (by simp) rfl (by simp)
                    have l7 := h11 l11
                    have l4 := (h7 l7).1
                    go_simp
                    refine hK _ _ ⟨hS, x46, x50, x52, x53, x57, x57, ?_, hsz, fun h => .inl (h4 (h.resolve_right (by decide))), fun _ => ⟨.inl l4, .inl (h7 l7).2⟩, fun _ => .inl l7, fun _ => .inl l11, fun _ h => absurd (.inl l4) h, fun _ h => absurd (.inl l7) h, fun _ h => absurd (.inl l7) h, fun _ h => absurd (.inl l11) h, fun _ => hE l11, fun _ => rfl⟩
                    simp only [Act.put, List.setIfInBounds_toArray, List.set_cons_zero, List.set_cons_succ]
                · intro L A W9 hI ha
                  obtain ⟨hS, x46, x50, x52, x53, x57, x3, rfl, hsz, h4, h7, h11, h12, hA, hB, hC, hD, hE, hF⟩ := hI
                  obtain rfl := hF (ha 12 (by simp))
                  have hr := hE (ha 11 (by simp))
                  have hBW := hS.1
                  clear h4 h7 h11 h12 hA hB hC hD hE hF ha hHeld hS
                  have hm2 := HM2.out
                  have hl9 : (tds.take (0) ++ ([⟨tid, 1, A5, c5, M⟩] : List TraceD) ++ tds.drop (0)).length = (0) + 1 + (tds.length) := by simp only [List.length_append, List.length_take, List.length_drop, List.length_cons, List.length_nil]; omega
                  have HO9 := Lib.hid (show OutT (w.heap.size + 1) w.heap.size x3 (tds.take (0) ++ ([⟨tid, 1, A5, c5, M⟩] : List TraceD) ++ tds.drop (0)) W9 from ⟨by
                    rw [hl9, List.flatMap_append, List.flatMap_append, List.flatMap_cons, List.flatMap_nil, List.append_nil]
                    exact row_mono hr (Nat.succ_le_of_lt (blk_lt (blk_keep HW2.out HS1.out))), fun t ht => by
                    simp only [List.mem_append, List.mem_cons, List.not_mem_nil, or_false] at ht
                    rcases ht with (ht | rfl) | ht
                    · exact own_apart (HO2.out.2 t (List.mem_of_mem_take ht)).1 hBW hr
                    · exact own_apart (HSp.out.below HW2.out) hBW hr
                    · exact own_apart (HO2.out.2 t (List.mem_of_mem_drop ht)).1 hBW hr⟩)
                  have HB9 := Lib.hid (below_on (below_on HB1.out HW2.out HB1.out.size) hBW (below_on HB1.out HW2.out HB1.out.size).size)
                  have HS9 := Lib.hid (show StoryB W9 w.heap.size (some ad) ts.length c o0 o1 o2 o3 b m d q from blk_keep hBW (blk_keep HW2.out HS1.out))
                  clear hr hBW
                  simp only [Act.put, List.setIfInBounds_toArray, List.set_cons_zero, List.set_cons_succ]
                  go_wp2_with fail
                  exact ⟨⟨j + 1, _, by omega, by rw [hl9]; omega, by go_num, HB9, HS9, HO9, Lib.hid (by rw [HTI.out]; exact tracesN_ins hlt HPP.out HV.out HMB.out (HTI.out ▸ HP.out))⟩, by simp [intOf]; omega⟩
            · obtain ⟨k, rfl⟩ : ∃ k, n = k + 1 := ⟨n - 1, by omega⟩
              obtain ⟨g3, rfl, hc3, hm3⟩ := hform.resolve_left (by omega)
              have y1 := ((HO1.out.below HW.out).1.cellAt (k * 3) (by omega)).trans (cellsD_get (by omega))
              have hk1 : ((k + 1 : Nat) : Int) - 1 = (k : Int) := by omega
              by_cases hid : tid < tds[k].id
              · go_upto_region 8 with (fail)
                go_quiet (fail)
                have HW2 := Lib.hid (below_on HW.out (below_drewN0 _ nq) HW.out.size)
                generalize wr.drewN nq = W2 at *
                clear y0 y1 HW
                go_wp2_with fail
                exact ⟨⟨k, by omega, rfl, HW2, Lib.hid (HP.out.trans (by rw [posX, pos_at (by omega), if_pos hid]))⟩, by simp [intOf]⟩
              · go_upto_region 8 with (fail)
                go_quiet (fail)
                have HW2 := Lib.hid (below_on HW.out (below_drewN0 _ nq) HW.out.size)
                generalize wr.drewN nq = W2 at *
                clear y0 y1 HW
                go_upto_region 10 with (fail)
                have HO2 := Lib.hid (HO1.out.below HW2.out)
                have HG2 := Lib.hid (blk_keep HW2.out HG.out)
                have hnl : ((k + 1) : Int) ≤ (tds.length : Int) := by omega
                have hn0' : (0 : Int) ≤ ((k + 1) : Int) := by omega
                have e2' : (tds.length : Int) ≤ (c3 : Int) := by omega
                have e3' : ((k + 1) : Int) ≤ (c3 : Int) := by omega
                try push_cast
                refine wp_region_held_drew (S := (fun W => Below W2.heap.size W2 W ∧ W.cell? ⟨gt, 0, none⟩ = some (.int .i64 tid) ∧ W.cell? ⟨gt, 1, none⟩ = some (.int .i64 1) ∧ W.cell? ⟨gt, 2, none⟩ = some (.slice A5 M.length c5))) (by kernel_rfl) ⟨below_drew _, cell_blk HG2.out 0 rfl, cell_blk HG2.out 1 rfl, cell_blk HG2.out 2 rfl⟩ (fun hHeld => ?_)
                refine take_at (i := 1) (v := ?_) rfl (by kernel_rfl) (by kernel_rfl) (by kernel_rfl) (fun _ _ _ h => h) (Or.inl ⟨by rfl, ?_⟩) hHeld ?_
                rotate_left
                · intro W hSw; (try dsimp only at hSw); go_simp; try with_reducible rfl
                try simp only [Act.put, List.setIfInBounds_toArray, List.set_cons_zero, List.set_cons_succ]
                refine take_at (i := 2) (v := ?_) rfl (by kernel_rfl) (by kernel_rfl) (by kernel_rfl) (fun _ _ _ h => h) (Or.inl ⟨by rfl, ?_⟩) hHeld ?_
                rotate_left
                · intro W hSw; (try dsimp only at hSw); go_simp; try with_reducible rfl
                try simp only [Act.put, List.setIfInBounds_toArray, List.set_cons_zero, List.set_cons_succ]
                refine take_at (i := 3) (v := ?_) rfl (by kernel_rfl) (by kernel_rfl) (by kernel_rfl) (fun _ _ _ h => h) (Or.inl ⟨by rfl, ?_⟩) hHeld ?_
                rotate_left
                · intro W hSw; (try dsimp only at hSw); go_simp; try with_reducible rfl
                try simp only [Act.put, List.setIfInBounds_toArray, List.set_cons_zero, List.set_cons_succ]
                refine take_at (i := 5) (v := ?_) rfl (by kernel_rfl) (by kernel_rfl) (by kernel_rfl) (fun _ _ _ h => h) (Or.inl ⟨by rfl, ?_⟩) hHeld ?_
                rotate_left
                · intro W hSw; (try dsimp only at hSw); go_simp; try with_reducible rfl
                try simp only [Act.put, List.setIfInBounds_toArray, List.set_cons_zero, List.set_cons_succ]
                refine take_at (i := 8) (v := ?_) rfl (by kernel_rfl) (by kernel_rfl) (by kernel_rfl) (fun _ _ _ h => h) (Or.inl ⟨by rfl, ?_⟩) hHeld ?_
                rotate_left
                · intro W hSw; (try dsimp only at hSw); go_simp; try with_reducible rfl
                try simp only [Act.put, List.setIfInBounds_toArray, List.set_cons_zero, List.set_cons_succ]
                refine take_at (i := 9) (v := ?_) rfl (by kernel_rfl) (by kernel_rfl) (by kernel_rfl) (fun _ _ _ h => h) (Or.inl ⟨by rfl, ?_⟩) hHeld ?_
                rotate_left
                · intro W hSw; (try dsimp only at hSw); go_simp; try with_reducible rfl
                try simp only [Act.put, List.setIfInBounds_toArray, List.set_cons_zero, List.set_cons_succ]
                refine take_at (i := 10) (v := ?_) rfl (by kernel_rfl) (by kernel_rfl) (by kernel_rfl) (fun _ _ _ h => h) (Or.inl ⟨by rfl, ?_⟩) hHeld ?_
                rotate_left
                · intro W hSw; (try dsimp only at hSw); go_simp; try with_reducible rfl
                try simp only [Act.put, List.setIfInBounds_toArray, List.set_cons_zero, List.set_cons_succ]
                have HX := Lib.hid (fun (W : World) (h : Below W2.heap.size W2 W) => out_take (n := (k + 1)) (HO2.out.below h))
                have HY := Lib.hid (fun (W : World) (h : Below W2.heap.size W2 W) => out_drop (n := (k + 1)) (HO2.out.below h) (by omega) (by omega))
                have HSm := Lib.hid (fun (W : World) (h : Below W2.heap.size W2 W) => (show Below W2.heap.size W2 W ∧ W.cell? ⟨gt, 0, none⟩ = some (.int .i64 tid) ∧ W.cell? ⟨gt, 1, none⟩ = some (.int .i64 1) ∧ W.cell? ⟨gt, 2, none⟩ = some (.slice A5 M.length c5) from have hb := (h.block _ (blk_lt HG2.out)).trans HG2.out; ⟨h, cell_blk hb 0 rfl, cell_blk hb 1 rfl, cell_blk hb 2 rfl⟩))
                have hxl : ((tds.take ((k + 1))).flatMap TraceD.cells).length = ((k + 1)) * 3 := by rw [flatT_length, List.length_take, Nat.min_eq_left (by omega)]
                have hyl : ((tds.drop ((k + 1))).flatMap TraceD.cells).length = (tds.length - (k + 1)) * 3 := by rw [flatT_length, List.length_drop] <;> first | rfl | omega
                have hm2 : ((k + 1)) + (tds.length - (k + 1)) = tds.length := by omega
                have HM2 := Lib.hid hm2
                have hn3x : ((k + 1)) ≤ 3 := by omega
                have hMM : (tds.length - (k + 1)) ≤ 3 := by omega
                clear hm2
                try clear hz2
                refine wpAnyH_rest [0, 4, 6, 7, 11, 12] (AppI (fun W => Below W2.heap.size W2 W ∧ W.cell? ⟨gt, 0, none⟩ = some (.int .i64 tid) ∧ W.cell? ⟨gt, 1, none⟩ = some (.int .i64 1) ∧ W.cell? ⟨gt, 2, none⟩ = some (.slice A5 M.length c5)) W2.heap.size ((k + 1)) (tds.length - (k + 1)) ((tds.take ((k + 1))).flatMap TraceD.cells) ([Value.int .i64 tid, .int .i64 1, .slice A5 M.length c5]) ((tds.drop ((k + 1))).flatMap TraceD.cells)) (by kernel_rfl) rfl (by kernel_rfl) (by kernel_rfl) (by kernel_rfl) ?_ (fun _ _ _ h => h.1) ?_ ?_
                · intro L hL
                  have g : ∀ k ∈ [0, 4, 6, 7, 11, 12], L k → False := fun k hk h => hL k hk h
                  refine ⟨hHeld, ?x46k, ?x50k, ?x52k, ?x53k, ?x57k, ?x3k, ?eqk, hHeld.1.size, fun h => (g 4 (by simp) h).elim, fun h => (g 7 (by simp) h).elim, fun h => (g 11 (by simp) h).elim, fun h => (g 12 (by simp) h).elim, fun h => (g 0 (by simp) h).elim, fun h => (g 4 (by simp) h).elim, fun h => (g 6 (by simp) h).elim, fun h => (g 7 (by simp) h).elim, fun h => (g 11 (by simp) h).elim, fun h => (g 12 (by simp) h).elim⟩
                  case eqk =>
                    simp only [Act.put, List.setIfInBounds_toArray, List.set_cons_zero, List.set_cons_succ]
                    try rfl
                · intro i0 hi0
                  simp only [List.mem_cons, List.not_mem_nil, or_false] at hi0
                  rcases hi0 with rfl | rfl | rfl | rfl | rfl | rfl
                  · intro L A W o hI ho hn hd
                    obtain rfl := Option.some.inj (show some _ = some o from nth_of ho)
                    obtain ⟨hS, x46, x50, x52, x53, x57, x3, rfl, hsz, h4, h7, h11, h12, hA, hB, hC, hD, hE, hF⟩ := hI
                    simp only [Act.put, List.setIfInBounds_toArray, List.set_cons_zero, List.set_cons_succ]
                    refine wpOp_step (nth_at rfl) (fun K hK => ?_)
                    rw [if_pos (by rfl)]
                    have n4 : ¬ L 4 := fun h => hn (h4 h)
                    go_simp
                    refine hK _ _ ⟨HSm.out _ (below_on hS.1 (below_alloc _ _) hS.1.size), .slice (some ⟨W.heap.size, 0, none⟩) 0 0, x50, x52, x53, x57, x3, ?_, by simp; omega, fun h => absurd (h.resolve_right (by decide)) n4, fun h => absurd (h7 (h.resolve_right (by decide))).1 n4, fun h => absurd (h7 (h11 (h.resolve_right (by decide)))).1 n4, fun h => absurd (h7 (h11 (h12 (h.resolve_right (by decide))))).1 n4, fun _ _ => World.ownsRow_made W #[] 0 hsz (Nat.zero_le _) rfl, fun h => absurd (h.resolve_right (by decide)) n4, fun h h' => ?_, fun h => absurd (h7 (h.resolve_right (by decide))).1 n4, fun h => absurd (h7 (h11 (h.resolve_right (by decide)))).1 n4, fun h => absurd (h7 (h11 (h12 (h.resolve_right (by decide))))).1 n4⟩
                    · simp only [Act.put, List.setIfInBounds_toArray, List.set_cons_zero, List.set_cons_succ]
                    · obtain ⟨g, e1, e2, e3, e4⟩ := hC (h.resolve_right (by decide)) (fun l => h' (.inl l))
                      refine ⟨g, e1, heap_alloc_old e2, fun _ _ he => ?_, fun h => absurd (h.resolve_right (by decide)) n4⟩
                      have := blk_lt e2
                      simp [Value.ownBlock] at he
                      omega
                  · intro L A W o hI ho hn hd
                    obtain rfl := Option.some.inj (show some _ = some o from nth_of ho)
                    obtain ⟨hS, x46, x50, x52, x53, x57, x3, rfl, hsz, h4, h7, h11, h12, hA, hB, hC, hD, hE, hF⟩ := hI
                    simp only [Act.put, List.setIfInBounds_toArray, List.set_cons_zero, List.set_cons_succ]
                    refine wpOp_step (nth_at rfl) (fun K hK => ?_)
                    rw [if_pos (by rfl)]
                    have l0 : L 0 := hd { on := 0, ground := Ground.data } (by simp) rfl (by simp)
                    have n7 : ¬ L 7 := fun h => hn (h7 h).1
                    have o46 := hA l0 hn
                    refine wp_append_any (.tmp 46) (.tmp 49) 42 rfl W2.heap.size 27 t3 z3 3 Tryz.underlying42 ht3 ht3z ht3s ht3b ht3c (by decide) x46 0 [] rfl o46 (some ⟨g3, 0, none⟩) ((k + 1)) (c3) ((tds.take ((k + 1))).flatMap TraceD.cells) rfl hxl (by intro h; first | exact ⟨rfl, rfl⟩ | cases h) (HX.out _ hS.1) (flatT_one _) (by omega) hsz ?_
                    intro v' w1 hown hgr hat
                    have hbw := below_grown hS.1 hgr (fun i hi => (o46.lt i hi).1) hS.1.size
                    have hgs := hgr.size
                    rw [Nat.zero_add, List.nil_append] at hown
                    refine hK _ _ ⟨HSm.out _ hbw, x46, v', x52, x53, x57, x3, ?_, by omega, fun _ => .inl l0, fun h => absurd (h.resolve_right (by decide)) n7, fun h => absurd (h11 (h.resolve_right (by decide))) n7, fun h => absurd (h11 (h12 (h.resolve_right (by decide)))) n7, fun _ h => absurd (.inr rfl) h, fun _ _ => hown, fun h _ => ?_, fun h => absurd (h.resolve_right (by decide)) n7, fun h => absurd (h11 (h.resolve_right (by decide))) n7, fun h => absurd (h11 (h12 (h.resolve_right (by decide)))) n7⟩
                    · simp only [Act.put, List.setIfInBounds_toArray, List.set_cons_zero, List.set_cons_succ]
                    · obtain ⟨g, e1, e2, e3, e4⟩ := hC (h.resolve_right (by decide)) n7
                      refine ⟨g, e1, blk_grown hgr e2 (e3 l0 hn), fun _ h => absurd (.inr rfl) h, fun _ he => ?_⟩
                      rcases hat with h | h
                      · exact e3 l0 hn (h.symm.trans he)
                      · have := blk_lt e2
                        have := Option.some.inj (h.symm.trans he)
                        omega
                  · intro L A W o hI ho hn hd
                    obtain rfl := Option.some.inj (show some _ = some o from nth_of ho)
                    obtain ⟨hS, x46, x50, x52, x53, x57, x3, rfl, hsz, h4, h7, h11, h12, hA, hB, hC, hD, hE, hF⟩ := hI
                    simp only [Act.put, List.setIfInBounds_toArray, List.set_cons_zero, List.set_cons_succ]
                    refine wpOp_step (nth_at rfl) (fun K hK => ?_)
                    rw [if_pos (by rfl)]
                    have n7 : ¬ L 7 := fun h => hn (h7 h).2
                    go_simp
                    refine hK _ _ ⟨HSm.out _ (below_on hS.1 (below_alloc _ _) hS.1.size), x46, x50, .slice (some ⟨W.heap.size, 0, none⟩) 1 1, x53, x57, x3, ?_, by simp; omega, fun h => .inl (h4 (h.resolve_right (by decide))), fun h => absurd (h.resolve_right (by decide)) n7, fun h => absurd (h11 (h.resolve_right (by decide))) n7, fun h => absurd (h11 (h12 (h.resolve_right (by decide)))) n7, fun h h' => (hA (h.resolve_right (by decide)) (fun l => h' (.inl l))).alloc _, fun h _ => (hB (h.resolve_right (by decide)) n7).alloc _, fun _ _ => ⟨W.heap.size, rfl, heap_alloc_last _ _, fun h h' he => ?_, fun h he => ?_⟩, fun h => absurd (h.resolve_right (by decide)) n7, fun h => absurd (h11 (h.resolve_right (by decide))) n7, fun h => absurd (h11 (h12 (h.resolve_right (by decide)))) n7⟩
                    · simp only [Act.put, List.setIfInBounds_toArray, List.set_cons_zero, List.set_cons_succ]
                    · have := ((hA (h.resolve_right (by decide)) (fun l => h' (.inl l))).lt _ he).2
                      omega
                    · have := ((hB (h.resolve_right (by decide)) n7).lt _ he).2
                      omega
                  · intro L A W o hI ho hn hd
                    obtain rfl := Option.some.inj (show some _ = some o from nth_of ho)
                    obtain ⟨hS, x46, x50, x52, x53, x57, x3, rfl, hsz, h4, h7, h11, h12, hA, hB, hC, hD, hE, hF⟩ := hI
                    simp only [Act.put, List.setIfInBounds_toArray, List.set_cons_zero, List.set_cons_succ]
                    refine wpOp_step (nth_at rfl) (fun K hK => ?_)
                    rw [if_pos (by rfl)]
                    have l4 : L 4 := hd { on := 4, ground := Ground.data } (by simp) rfl (by simp)
                    have l6 : L 6 := hd { on := 6, ground := Ground.data } (by simp) rfl (by simp)
                    have n11 : ¬ L 11 := fun h => hn (h11 h)
                    have o50 := hB l4 hn
                    obtain ⟨g, rfl, e2, e3, e4⟩ := hC l6 hn
                    refine wp_append_any (.tmp 50) (.tmp 52) 42 rfl W2.heap.size 27 t3 z3 3 Tryz.underlying42 ht3 ht3z ht3s ht3b ht3c (by decide) x50 ((k + 1)) ((tds.take ((k + 1))).flatMap TraceD.cells) rfl o50 (some ⟨g, 0, none⟩) 1 1 ([Value.int .i64 tid, .int .i64 1, .slice A5 M.length c5]) rfl rfl (fun h => by cases h) (fun p hp => by cases hp; exact World.news_of_block e2) (by simp [Value.oneCell']) (by omega) hsz ?_
                    intro v' w1 hown hgr hat
                    have hbw := below_grown hS.1 hgr (fun i hi => (o50.lt i hi).1) hS.1.size
                    have hgs := hgr.size
                    refine hK _ _ ⟨HSm.out _ hbw, x46, x50, .slice (some ⟨g, 0, none⟩) 1 1, v', x57, x3, ?_, by omega, fun h => .inl (h4 (h.resolve_right (by decide))), fun _ => ⟨.inl l4, .inl l6⟩, fun h => absurd (h.resolve_right (by decide)) n11, fun h => absurd (h12 (h.resolve_right (by decide))) n11, fun _ h => absurd (.inl l4) h, fun _ h => absurd (.inr rfl) h, fun _ h => absurd (.inr rfl) h, fun _ _ => hown, fun h => absurd (h.resolve_right (by decide)) n11, fun h => absurd (h12 (h.resolve_right (by decide))) n11⟩
                    simp only [Act.put, List.setIfInBounds_toArray, List.set_cons_zero, List.set_cons_succ]
                  · intro L A W o hI ho hn hd
                    obtain rfl := Option.some.inj (show some _ = some o from nth_of ho)
                    obtain ⟨hS, x46, x50, x52, x53, x57, x3, rfl, hsz, h4, h7, h11, h12, hA, hB, hC, hD, hE, hF⟩ := hI
                    simp only [Act.put, List.setIfInBounds_toArray, List.set_cons_zero, List.set_cons_succ]
                    refine wpOp_step (nth_at rfl) (fun K hK => ?_)
                    rw [if_pos (by rfl)]
                    have l7 : L 7 := hd { on := 7, ground := Ground.data } (by simp) rfl (by simp)
                    have l4 := (h7 l7).1
                    have n12 : ¬ L 12 := fun h => hn (h12 h)
                    have o53 := hD l7 hn
                    refine wp_append_any (.tmp 53) (.tmp 56) 42 rfl W2.heap.size 27 t3 z3 3 Tryz.underlying42 ht3 ht3z ht3s ht3b ht3c (by decide) x53 ((k + 1) + 1) ((tds.take ((k + 1))).flatMap TraceD.cells ++ [Value.int .i64 tid, .int .i64 1, .slice A5 M.length c5]) rfl o53 (if c3 = k + 1 then some ⟨g3, 0, none⟩ else some ⟨g3, (k + 1) * 3, none⟩) (tds.length - (k + 1)) (c3 - (k + 1)) ((tds.drop ((k + 1))).flatMap TraceD.cells) rfl hyl (by intro h; first | exact ⟨rfl, rfl⟩ | (split at h <;> cases h) | cases h) (HY.out _ hS.1) (flatT_one _) (by omega) hsz ?_
                    intro v' w1 hown hgr hat
                    have hbw := below_grown hS.1 hgr (fun i hi => (o53.lt i hi).1) hS.1.size
                    have hgs := hgr.size
                    refine hK _ _ ⟨HSm.out _ hbw, x46, x50, x52, x53, v', x3, ?_, by omega, fun h => .inl (h4 (h.resolve_right (by decide))), fun _ => ⟨.inl l4, .inl (h7 l7).2⟩, fun _ => .inl l7, fun h => absurd (h.resolve_right (by decide)) n12, fun _ h => absurd (.inl l4) h, fun _ h => absurd (.inl l7) h, fun _ h => absurd (.inl l7) h, fun _ h => absurd (.inr rfl) h, fun _ => hown, fun h => absurd (h.resolve_right (by decide)) n12⟩
                    simp only [Act.put, List.setIfInBounds_toArray, List.set_cons_zero, List.set_cons_succ]
                  · intro L A W o hI ho hn hd
                    obtain rfl := Option.some.inj (show some _ = some o from nth_of ho)
                    obtain ⟨hS, x46, x50, x52, x53, x57, x3, rfl, hsz, h4, h7, h11, h12, hA, hB, hC, hD, hE, hF⟩ := hI
                    simp only [Act.put, List.setIfInBounds_toArray, List.set_cons_zero, List.set_cons_succ]
                    refine wpOp_step (nth_at rfl) (fun K hK => ?_)
                    rw [if_pos (by rfl)]
                    have l11 : L 11 := hd { on := 11, ground := Ground.data } (by simp) rfl (by simp)
                    have l7 := h11 l11
                    have l4 := (h7 l7).1
                    go_simp
                    refine hK _ _ ⟨hS, x46, x50, x52, x53, x57, x57, ?_, hsz, fun h => .inl (h4 (h.resolve_right (by decide))), fun _ => ⟨.inl l4, .inl (h7 l7).2⟩, fun _ => .inl l7, fun _ => .inl l11, fun _ h => absurd (.inl l4) h, fun _ h => absurd (.inl l7) h, fun _ h => absurd (.inl l7) h, fun _ h => absurd (.inl l11) h, fun _ => hE l11, fun _ => rfl⟩
                    simp only [Act.put, List.setIfInBounds_toArray, List.set_cons_zero, List.set_cons_succ]
                · intro L A W9 hI ha
                  obtain ⟨hS, x46, x50, x52, x53, x57, x3, rfl, hsz, h4, h7, h11, h12, hA, hB, hC, hD, hE, hF⟩ := hI
                  obtain rfl := hF (ha 12 (by simp))
                  have hr := hE (ha 11 (by simp))
                  have hBW := hS.1
                  clear h4 h7 h11 h12 hA hB hC hD hE hF ha hHeld hS
                  have hm2 := HM2.out
                  have hl9 : (tds.take ((k + 1)) ++ ([⟨tid, 1, A5, c5, M⟩] : List TraceD) ++ tds.drop ((k + 1))).length = ((k + 1)) + 1 + (tds.length - (k + 1)) := by simp only [List.length_append, List.length_take, List.length_drop, List.length_cons, List.length_nil]; omega
                  have HO9 := Lib.hid (show OutT (w.heap.size + 1) w.heap.size x3 (tds.take ((k + 1)) ++ ([⟨tid, 1, A5, c5, M⟩] : List TraceD) ++ tds.drop ((k + 1))) W9 from ⟨by
                    rw [hl9, List.flatMap_append, List.flatMap_append, List.flatMap_cons, List.flatMap_nil, List.append_nil]
                    exact row_mono hr (Nat.succ_le_of_lt (blk_lt (blk_keep HW2.out HS1.out))), fun t ht => by
                    simp only [List.mem_append, List.mem_cons, List.not_mem_nil, or_false] at ht
                    rcases ht with (ht | rfl) | ht
                    · exact own_apart (HO2.out.2 t (List.mem_of_mem_take ht)).1 hBW hr
                    · exact own_apart (HSp.out.below HW2.out) hBW hr
                    · exact own_apart (HO2.out.2 t (List.mem_of_mem_drop ht)).1 hBW hr⟩)
                  have HB9 := Lib.hid (below_on (below_on HB1.out HW2.out HB1.out.size) hBW (below_on HB1.out HW2.out HB1.out.size).size)
                  have HS9 := Lib.hid (show StoryB W9 w.heap.size (some ad) ts.length c o0 o1 o2 o3 b m d q from blk_keep hBW (blk_keep HW2.out HS1.out))
                  clear hr hBW
                  simp only [Act.put, List.setIfInBounds_toArray, List.set_cons_zero, List.set_cons_succ]
                  go_wp2_with fail
                  exact ⟨⟨j + 1, _, by omega, by rw [hl9]; omega, by go_num, HB9, HS9, HO9, Lib.hid (by rw [HTI.out]; exact tracesN_ins hlt HPP.out HV.out HMB.out (HTI.out ▸ HP.out.trans (by rw [posX, pos_at (by omega), if_neg hid])))⟩, by simp [intOf]; omega⟩
    · obtain rfl : j = ts.length := by omega
      go_wp2_with fail
      go_ret
      exact ⟨⟨_, tds, rfl, ⟨row_mono HO.out.1 (by omega), HO.out.2⟩, HV.out, by omega⟩, HB.out⟩
end Go.Proofs.YtnddlpfmagdbfaaGreatDoor.Sto

/- Plain law: the traces of a story are valid. -/
namespace Go.Proofs.YtnddlpfmagdbfaaGreatDoor.Sto
open Go Go.Ev Go.Proofs Go.RowKit
set_option linter.unusedVariables false
set_option linter.unusedSimpArgs false
def allB (l : List ByteArray) (f : ByteArray → Bool) : Bool := l.all f
theorem nth_of_all {l : List ByteArray} {f : ByteArray → Bool} (h : l.all f = true) {i : Int} (h0 : 0 ≤ i) (h1 : i < l.length) : f (nth l i) = true := by
  unfold nth
  have hi : i.toNat < l.length := by omega
  rw [List.getD_eq_getElem?_getD, List.getElem?_eq_getElem hi]
  exact List.all_eq_true.1 h _ (List.getElem_mem hi)
theorem svcs_ok : svcs.all nameB = true := by kernel_rfl
theorem opns_ok : opns.all nameB = true := by kernel_rfl
theorem vers_ok : (vers.all fun s => s.toList.isEmpty || nameB s) = true := by kernel_rfl
theorem attrs_ok : ((List.range 256).all fun t => decide (attrsErr (attrX t) = 0)) = true := by kernel_rfl
theorem attrsX_ok {t : Int} (h : isU8 t) : attrsErr (attrX t.toNat) = 0 := by
  unfold isU8 at h
  exact of_decide_eq_true (List.all_eq_true.1 attrs_ok t.toNat (List.mem_range.2 (by omega)))
theorem badX_false {n : Int} (h0 : 1 ≤ n) (h1 : n ≤ 1099511627776) : badX n = false := by
  unfold badX
  rw [decide_eq_false (by omega), decide_eq_false (by omega)]
  rfl
theorem links_ok {x : CallD} {tid : Int} {i : Nat} {ss : List Int} {s : Int} (h0 : 1 ≤ tid) (h1 : tid ≤ 1099511627776) : linksErr (x.linksX tid i ss s) = 0 := by
  unfold CallD.linksX
  split
  · unfold linksErr
    rw [if_neg (by simp)]
    have hb : badX (x.j % 16 + 1) = false := badX_false (by omega) (by omega)
    simp [linksFrom, linkErr, badX_false h0 h1, hb]
  · rfl
theorem tid_range {t : TreeD} {k : Nat} (h : isU8 t.s) (hk : k < 3) : 1 ≤ tidX t k ∧ tidX t k ≤ 1099511627776 := by
  unfold isU8 at h
  unfold tidX
  omega
theorem par_range (x : CallD) (i : Nat) (hi : i ≤ 8) : 0 ≤ x.par i ∧ x.par i ≤ 1099511627776 := by
  unfold CallD.par
  have h0 := Int.emod_nonneg x.p (show (i : Int) + 1 ≠ 0 by omega)
  split
  · omega
  · split <;> omega
theorem by_range (o0 o1 o2 o3 q : Int) (k i : Nat) (x : CallD) : -20 ≤ byX o0 o1 o2 o3 q k i x ∧ byX o0 o1 o2 o3 q k i x ≤ 520 := by
  have := off_range o0 o1 o2 o3 (1 + x.k % 4)
  unfold byX
  split <;> omega
/-- The spans of a story are valid. -/
theorem span_ok {t : TreeD} {o0 o1 o2 o3 q : Int} {k i : Nat} (ht : isU8 t.s) (hk : k < 3) (hl : t.cs.length ≤ 8) (hc : ∀ i (h : i < t.cs.length), t.cs[i].ok) (hi : i < t.cs.length) : spanErr (spanX t o0 o1 o2 o3 q k i) = 0 := by
  obtain ⟨tid0, tid1⟩ := tid_range ht hk
  obtain ⟨b1, b2, b3⟩ := times_bounds t.f t.cs
  obtain ⟨c0, c1, c2⟩ := b3 i (by omega) (by omega)
  have hs : (startX t.f t.cs).getD i 0 = (startX t.f t.cs)[i]'(by omega) := by rw [List.getD_eq_getElem?_getD, List.getElem?_eq_getElem (by omega), Option.getD_some]
  have he : (endX t.f t.cs).getD i 0 = (endX t.f t.cs)[i]'(by omega) := by rw [List.getD_eq_getElem?_getD, List.getElem?_eq_getElem (by omega), Option.getD_some]
  have hx : t.cs.getD i default = t.cs[i] := by rw [List.getD_eq_getElem?_getD, List.getElem?_eq_getElem hi, Option.getD_some]
  have hok := hc i hi
  unfold spanX
  rw [hs, he, hx]
  generalize (startX t.f t.cs)[i] = s at *
  generalize (endX t.f t.cs)[i] = e at *
  generalize t.cs[i] = x at *
  have hby := by_range o0 o1 o2 o3 q k i x
  generalize byX o0 o1 o2 o3 q k i x = by0 at *
  have hpar := par_range x i (by omega)
  obtain ⟨-, h1, h2, h3, h4, h5, -, -, -, h9⟩ := hok
  have hA := attrsX_ok h9
  have hL := links_ok (x := x) (i := i) (ss := startX t.f t.cs) (s := s) tid0 tid1
  have n1 := nth_of_all svcs_ok (i := x.s % 4) (by omega) (by show x.s % 4 < 4; omega)
  have n2 := nth_of_all opns_ok (i := x.o % 3) (by omega) (by show x.o % 3 < 3; omega)
  have n3 := nth_of_all vers_ok (i := x.v % 3) (by omega) (by show x.v % 3 < 3; omega)
  unfold spanErr
  have hh : headErr (shiftX by0 (madeX (tidX t k) x i (startX t.f t.cs) s e)) = 0 := by
    unfold headErr
    have g1 : badX (tidX t k) = false := badX_false tid0 tid1
    have g2 : badX ((i : Int) + 1) = false := badX_false (by omega) (by omega)
    rw [if_neg, if_neg, if_neg, if_neg, if_neg, if_neg]
    · show ¬ 1099511627776 < wrap64 ((e + by0) - (s + by0))
      rw [IntWalk.wrap64_in _ (by omega)]
      omega
    · show ¬ (e + by0) < (s + by0)
      omega
    · show ¬ (min (s + by0) (e + by0) < -1099511627776 ∨ 1099511627776 < max (s + by0) (e + by0))
      omega
    · show ¬ (nameB (nth svcs (x.s % 4)) = false ∨ nameB (nth opns (x.o % 3)) = false ∨ ((nth vers (x.v % 3)).toList ≠ [] ∧ nameB (nth vers (x.v % 3)) = false))
      rw [n1, n2]
      simp only [Bool.true_eq_false, false_or, not_and, Bool.not_eq_false]
      intro h
      rw [Bool.or_eq_true] at n3
      exact n3.resolve_left fun h' => h (List.isEmpty_iff.1 h')
    · show ¬ (kindX x < 1 ∨ 5 < kindX x)
      unfold kindX
      omega
    · show ¬ (badX (tidX t k) = true ∨ badX ((i : Int) + 1) = true ∨ x.par i < 0 ∨ 1099511627776 < x.par i ∨ (0 : Int) < 0 ∨ 1048576 < (0 : Int) ∨ 1 + x.k % 4 < 1 ∨ 1048576 < 1 + x.k % 4)
      rw [g1, g2]
      simp only [Bool.false_eq_true, false_or]
      omega
  rw [hh]
  show (if (0 : Int) ≠ 0 then (0 : Int) else orI [attrsErr (attrX x.t.toNat), linksErr (x.linksX (tidX t k) i (startX t.f t.cs) s)]) = 0
  rw [hA, hL]
  rfl
theorem ins_mem {y z : BareT} {L : List BareT} (h : z ∈ insX y L) : z = y ∨ z ∈ L := by
  unfold insX at h
  simp only [List.mem_append, List.mem_singleton] at h
  rcases h with (h | h) | h
  · exact .inr (List.mem_of_mem_take h)
  · exact .inl h
  · exact .inr (List.mem_of_mem_drop h)
theorem traces_mem {ts : List TreeD} {o0 o1 o2 o3 q : Int} : ∀ (n : Nat) {z : BareT}, z ∈ tracesN ts o0 o1 o2 o3 q n → ∃ k, ∃ h : k < ts.length, k < n ∧ z = (tidX ts[k] k, 1, traceX ts[k] o0 o1 o2 o3 q k)
  | 0, z, h => by simp [tracesN] at h
  | n + 1, z, h => by
    rw [tracesN_succ] at h
    unfold stepTr at h
    by_cases hn : n < ts.length
    · rw [List.getElem?_eq_getElem hn] at h
      simp only at h
      by_cases h0 : ts[n].cs.length = 0
      · rw [if_pos h0] at h
        obtain ⟨k, hk, h1, h2⟩ := traces_mem n h
        exact ⟨k, hk, by omega, h2⟩
      · rw [if_neg h0] at h
        rcases ins_mem h with h | h
        · exact ⟨n, hn, by omega, h⟩
        · obtain ⟨k, hk, h1, h2⟩ := traces_mem n h
          exact ⟨k, hk, by omega, h2⟩
    · rw [List.getElem?_eq_none (by omega)] at h
      obtain ⟨k, hk, h1, h2⟩ := traces_mem n h
      exact ⟨k, hk, by omega, h2⟩
theorem firstErr_all {α : Type} {f : α → Int} : ∀ {L : List α}, (∀ x ∈ L, f x = 0) → firstErr f L = 0
  | [], _ => rfl
  | x :: l, h => by
    unfold firstErr
    rw [if_neg (by rw [h x List.mem_cons_self]; simp)]
    exact firstErr_all fun y hy => h y (List.mem_cons_of_mem _ hy)
/-- The trees of a story are in order. -/
def TreesOk (ts : List TreeD) : Prop := ts.length ≤ 3 ∧ ∀ k (h : k < ts.length), isU8 ts[k].s ∧ isU8 ts[k].f ∧ ts[k].cs.length ≤ 8 ∧ ∀ i (h : i < ts[k].cs.length), ts[k].cs[i].ok
/-- The traces of a story are valid. -/
theorem trace_ok {ts : List TreeD} {o0 o1 o2 o3 q : Int} (hts : TreesOk ts) {t : TraceD} (h : t.bare ∈ tracesX ts o0 o1 o2 o3 q) : traceErr t = 0 ∧ t.weight = 1 := by
  obtain ⟨k, hk, _, e⟩ := traces_mem _ h
  obtain ⟨e1, e⟩ := Prod.mk.inj e
  obtain ⟨e2, e3⟩ := Prod.mk.inj e
  obtain ⟨h1, h2, h3, h4⟩ := hts.2 k hk
  obtain ⟨tid0, tid1⟩ := tid_range h1 (k := k) (by have := hts.1; omega)
  refine ⟨?_, e2⟩
  unfold traceErr
  rw [if_pos]
  · refine firstErr_all fun x hx => ?_
    have hxm : x.bare ∈ traceX ts[k] o0 o1 o2 o3 q k := e3 ▸ List.mem_map_of_mem hx
    obtain ⟨i, hi, ei⟩ := List.mem_map.1 hxm
    rw [List.mem_range] at hi
    have hs : spanErr x = 0 := by
      have : spanErr x = spanErr x.bare := rfl
      rw [this, ← ei]
      exact span_ok h1 (by have := hts.1; omega) h3 h4 hi
    have ht : x.trace = tidX ts[k] k := by
      have : x.trace = x.bare.trace := rfl
      rw [this, ← ei]
      rfl
    unfold memErr
    rw [if_neg (by rw [hs]; simp), if_neg (by rw [ht, e1]; simp)]
  · unfold traceOk
    rw [e1, e2]
    exact ⟨tid0, tid1, by omega, by omega, by decide⟩
end Go.Proofs.YtnddlpfmagdbfaaGreatDoor.Sto
/- A story, opened out of its reading. -/
namespace Go.Proofs.YtnddlpfmagdbfaaGreatDoor.Sto
open Go Go.Ev Go.Proofs Go.RowKit Go.ChangeShapes Go.WideShapes Go.Deep
set_option linter.unusedVariables false
set_option linter.unusedSimpArgs false
theorem list_11 {α : Type} : ∀ {l : List α}, l.length = 11 → ∃ a0 a1 a2 a3 a4 a5 a6 a7 a8 a9 a10, l = [a0, a1, a2, a3, a4, a5, a6, a7, a8, a9, a10]
  | [a0, a1, a2, a3, a4, a5, a6, a7, a8, a9, a10], _ => ⟨a0, a1, a2, a3, a4, a5, a6, a7, a8, a9, a10, rfl⟩
theorem lit_i8 {n : Int} (h : (Lit.int .i8 n).wf = true) : isI8 n := by
  simp [Lit.wf, IntKind.min, IntKind.max, IntKind.signed, IntKind.bits] at h
  unfold isI8
  omega
theorem lit_u8 {n : Int} (h : (Lit.int .u8 n).wf = true) : isU8 n := by
  simp [Lit.wf, IntKind.min, IntKind.max, IntKind.signed, IntKind.bits] at h
  exact ⟨by omega, by omega⟩
section
variable {H : Type} {enc : TypeId × Value → H} {w : World} {base : Nat} {spare : Nat → Bool} {held : Bool}
theorem open_call {fuel : Nat} {cs : List Value} {x : DataW H × List MemPlace} (h : DataW.trod enc Tryz.prog w base spare held fuel 155 cs = some x) : ∃ r : CallD, cs = r.cells ∧ r.ok := by
  obtain ⟨xs, k, _, _, hl, hxl, hf⟩ := DataW.trod_struct Tryz.underlying155 h
  have c0 : Tryz.prog.cellsOf 155 = 11 := by kernel_rfl
  have c5 : Tryz.prog.cellsOf 5 = 1 := by kernel_rfl
  have c4 : Tryz.prog.cellsOf 4 = 1 := by kernel_rfl
  rw [c0] at hl
  have hxl : xs.length = 11 := hxl
  obtain ⟨y0, y1, y2, y3, y4, y5, y6, y7, y8, y9, y10, rfl⟩ := list_11 hxl
  obtain ⟨v0, v1, v2, v3, v4, v5, v6, v7, v8, v9, v10, rfl⟩ := list_11 hl
  have g0 := hf 0 _ rfl
  have g1 := hf 1 _ rfl
  have g2 := hf 2 _ rfl
  have g3 := hf 3 _ rfl
  have g4 := hf 4 _ rfl
  have g5 := hf 5 _ rfl
  have g6 := hf 6 _ rfl
  have g7 := hf 7 _ rfl
  have g8 := hf 8 _ rfl
  have g9 := hf 9 _ rfl
  have g10 := hf 10 _ rfl
  simp [c4, c5] at g0 g1 g2 g3 g4 g5 g6 g7 g8 g9 g10
  obtain ⟨n0, e0, _, w0⟩ := DataW.trod_int Tryz.underlying5 g0
  obtain ⟨n1, e1, _, w1⟩ := DataW.trod_int Tryz.underlying5 g1
  obtain ⟨n2, e2, _, w2⟩ := DataW.trod_int Tryz.underlying5 g2
  obtain ⟨n3, e3, _, w3⟩ := DataW.trod_int Tryz.underlying5 g3
  obtain ⟨n4, e4, _, w4⟩ := DataW.trod_int Tryz.underlying5 g4
  obtain ⟨n5, e5, _, w5⟩ := DataW.trod_int Tryz.underlying5 g5
  obtain ⟨n6, e6, _, w6⟩ := DataW.trod_int Tryz.underlying5 g6
  obtain ⟨n7, e7, _, w7⟩ := DataW.trod_int Tryz.underlying5 g7
  obtain ⟨n8, e8, _, w8⟩ := DataW.trod_int Tryz.underlying5 g8
  obtain ⟨n9, e9, _, w9⟩ := DataW.trod_int Tryz.underlying5 g9
  obtain ⟨n10, e10, _⟩ := DataW.trod_bool Tryz.underlying4 g10
  simp only [List.cons.injEq, and_true] at e0 e1 e2 e3 e4 e5 e6 e7 e8 e9 e10
  exact ⟨⟨n0, n1, n2, n3, n4, n5, n6, n7, n8, n9, n10⟩, by rw [e0, e1, e2, e3, e4, e5, e6, e7, e8, e9, e10]; rfl, lit_u8 w0, lit_u8 w1, lit_u8 w2, lit_u8 w3, lit_u8 w4, lit_u8 w5, lit_u8 w6, lit_u8 w7, lit_u8 w8, lit_u8 w9⟩
theorem cells_call {W : World} {p : Addr} {r : CallD} (hs : p.spot = none) (h : W.cells? base p 11 = some r.cells) : CallAt W p r := by
  obtain ⟨_, _, hc⟩ := World.cells?_some h
  obtain ⟨b, o, s⟩ := p
  cases hs
  have h0 := hc 0 (by omega)
  have h1 := hc 1 (by omega)
  have h2 := hc 2 (by omega)
  have h3 := hc 3 (by omega)
  have h4 := hc 4 (by omega)
  have h5 := hc 5 (by omega)
  have h6 := hc 6 (by omega)
  have h7 := hc 7 (by omega)
  have h8 := hc 8 (by omega)
  have h9 := hc 9 (by omega)
  have h10 := hc 10 (by omega)
  simp [CallD.cells, add_plain] at h0 h1 h2 h3 h4 h5 h6 h7 h8 h9 h10
  exact ⟨by simpa [Addr.add] using h0, h1, h2, h3, h4, h5, h6, h7, h8, h9, h10⟩
instance : Inhabited TreeD := ⟨⟨0, 0, none, [], 0⟩⟩
theorem open_calls {fuel : Nat} {v : Value} {x : DataW H × List MemPlace} (h : DataW.trod enc Tryz.prog w base spare held fuel 85 [v] = some x) :
    ∃ (a : Option Addr) (xs : List CallD) (c : Nat), v = .slice a xs.length c ∧ xs.length ≤ maxLen ∧ CallsAt w a xs := by
  have c36 : Tryz.prog.cellsOf 155 = 11 := by kernel_rfl
  rcases open_slice Tryz.underlying85 h with ⟨e, _⟩ | ⟨a, len, cap, m, n, D, Pl, e, _, hlc, hcm, hm, _, hel⟩
  · simp at e
    refine ⟨none, [], 0, by rw [e]; rfl, Nat.zero_le _, fun j hj => ?_⟩
    simp at hj
  · simp at e
    have hlm : len ≤ m := by rw [hm]; split <;> omega
    rw [c36] at hel
    have each : ∀ i, i < len → ∃ r : CallD, w.cells? base (a.add (i * 11)) 11 = some r.cells ∧ r.ok := by
      intro i hi
      obtain ⟨cs, h1, h2⟩ := hel i (by omega)
      obtain ⟨r, rfl, hr⟩ := open_call h2
      exact ⟨r, h1, hr⟩
    obtain ⟨f, hf⟩ := choose_lt each
    have hsp : ∀ j, j < len → a.spot = none := by
      intro j hj
      obtain ⟨_, _, hc⟩ := World.cells?_some (hf 0 (by omega)).1
      have h0 := hc 0 (by omega)
      rw [Deep.add_add] at h0
      have h0 : w.cell? a = some (Value.int .u8 (f 0).p) := by simpa [CallD.cells, Addr.add] using h0
      exact World.cell?_spot h0
    refine ⟨some a, (List.range len).map f, cap, by rw [e]; simp, by simp; omega, fun j hj => ?_⟩
    simp at hj
    refine ⟨a, rfl, ?_⟩
    simp only [List.getElem_map, List.getElem_range]
    exact ⟨cells_call (by have := hsp j hj; simp [Addr.add]; split <;> simp_all) (hf j hj).1, (hf j hj).2⟩
def listT (x : TreeD) : List Value := [.int .u8 x.s, .int .u8 x.f, .slice x.a x.cs.length x.c]
theorem open_tree {fuel : Nat} {cs : List Value} {x : DataW H × List MemPlace} (h : DataW.trod enc Tryz.prog w base spare held fuel 87 cs = some x) :
    ∃ r : TreeD, cs = listT r ∧ CallsAt w r.a r.cs ∧ isU8 r.s ∧ isU8 r.f ∧ r.cs.length ≤ maxLen := by
  obtain ⟨xs, k, _, _, hl, hxl, hf⟩ := DataW.trod_struct Tryz.underlying87 h
  have c0 : Tryz.prog.cellsOf 87 = 3 := by kernel_rfl
  have c5 : Tryz.prog.cellsOf 5 = 1 := by kernel_rfl
  have c185 : Tryz.prog.cellsOf 85 = 1 := by kernel_rfl
  rw [c0] at hl
  have hxl : xs.length = 3 := hxl
  obtain ⟨y0, y1, y2, rfl⟩ := list_3 hxl
  obtain ⟨v0, v1, v2, rfl⟩ := list_3 hl
  have g0 := hf 0 _ rfl
  have g1 := hf 1 _ rfl
  have g2 := hf 2 _ rfl
  simp [c5, c185] at g0 g1 g2
  obtain ⟨n0, e0, _, w0⟩ := DataW.trod_int Tryz.underlying5 g0
  obtain ⟨n1, e1, _, w1⟩ := DataW.trod_int Tryz.underlying5 g1
  obtain ⟨a, xs, c, e2, hlen, hca⟩ := open_calls g2
  simp only [List.cons.injEq, and_true] at e0 e1
  exact ⟨⟨n0, n1, a, xs, c⟩, by rw [e0, e1, e2]; rfl, hca, lit_u8 w0, lit_u8 w1, hlen⟩
theorem open_trees {fuel : Nat} {v : Value} {x : DataW H × List MemPlace} (h : DataW.trod enc Tryz.prog w base spare held fuel 47 [v] = some x) :
    ∃ (a : Option Addr) (ts : List TreeD) (c : Nat), v = .slice a ts.length c ∧ ts.length ≤ maxLen ∧ TreesAt w a ts ∧ ∀ j (hj : j < ts.length), ts[j].cs.length ≤ maxLen := by
  have c36 : Tryz.prog.cellsOf 87 = 3 := by kernel_rfl
  rcases open_slice Tryz.underlying47 h with ⟨e, _⟩ | ⟨a, len, cap, m, n, D, Pl, e, _, hlc, hcm, hm, _, hel⟩
  · simp at e
    refine ⟨none, [], 0, by rw [e]; rfl, Nat.zero_le _, fun j hj => ?_, fun j hj => ?_⟩
    · simp at hj
    · simp at hj
  · simp at e
    have hlm : len ≤ m := by rw [hm]; split <;> omega
    rw [c36] at hel
    have each : ∀ i, i < len → ∃ r : TreeD, w.cells? base (a.add (i * 3)) 3 = some (listT r) ∧ CallsAt w r.a r.cs ∧ isU8 r.s ∧ isU8 r.f ∧ r.cs.length ≤ maxLen := by
      intro i hi
      obtain ⟨cs, h1, h2⟩ := hel i (by omega)
      obtain ⟨r, rfl, hr⟩ := open_tree h2
      exact ⟨r, h1, hr⟩
    obtain ⟨f, hf⟩ := choose_lt each
    have hsp : ∀ j, j < len → a.spot = none := by
      intro j hj
      obtain ⟨_, _, hc⟩ := World.cells?_some (hf 0 (by omega)).1
      have h0 := hc 0 (by omega)
      rw [Deep.add_add] at h0
      have h0 : w.cell? a = some (Value.int .u8 (f 0).s) := by simpa [listT, Addr.add] using h0
      exact World.cell?_spot h0
    refine ⟨some a, (List.range len).map f, cap, by rw [e]; simp, by simp; omega, fun j hj => ?_, fun j hj => ?_⟩
    · simp at hj
      refine ⟨a, rfl, ?_⟩
      simp only [List.getElem_map, List.getElem_range]
      obtain ⟨h1, h2, h3, h4, _⟩ := hf j hj
      have hs : (a.add (j * 3)).spot = none := by have := hsp j hj; simp [Addr.add]; split <;> simp_all
      generalize a.add (j * 3) = p at *
      obtain ⟨b, o, s⟩ := p
      cases hs
      obtain ⟨_, _, hc⟩ := World.cells?_some h1
      have k0 := hc 0 (by omega)
      have k1 := hc 1 (by omega)
      have k2 := hc 2 (by omega)
      simp [listT, add_plain] at k0 k1 k2
      exact ⟨by simpa [Addr.add] using k0, k1, k2, h2, h3, h4⟩
    · simp at hj
      simp only [List.getElem_map, List.getElem_range]
      exact (hf j hj).2.2.2.2
set_option maxRecDepth 100000 in
/-- A story's value. -/
theorem open_story {r : Reach} {b2 : Nat} {v : Value} {dd : DataW H} {p : List MemPlace} (hv : Value.okWide Tryz.prog w r b2 52 v) (h : DataW.Trod enc Tryz.prog w base spare held 52 v dd p) :
    ∃ a ts c o0 o1 o2 o3 b m d q, v = .agg #[.slice a (List.length (α := TreeD) ts) c, .int .i8 o0, .int .i8 o1, .int .i8 o2, .int .i8 o3, .slice b m d, .int .u8 q] ∧ TreesAt w a ts ∧ ts.length ≤ maxLen ∧ m ≤ maxLen ∧ (∀ j (hj : j < ts.length), ts[j].cs.length ≤ maxLen) ∧ isU8 q ∧ (isI8 o0 ∧ isI8 o1 ∧ isI8 o2 ∧ isI8 o3) := by
  simp only [Value.okWide, Tryz.underlying52] at hv
  obtain ⟨cs, rfl, _⟩ := hv
  obtain ⟨m, hm⟩ := h
  obtain ⟨l⟩ := cs
  obtain ⟨ys, k, _, _, hl, hxl, hf⟩ := DataW.trod_struct Tryz.underlying52 hm
  have c0 : Tryz.prog.cellsOf 52 = 7 := by kernel_rfl
  have c48 : Tryz.prog.cellsOf 47 = 1 := by kernel_rfl
  have c50 : Tryz.prog.cellsOf 49 = 4 := by kernel_rfl
  have c49 : Tryz.prog.cellsOf 48 = 1 := by kernel_rfl
  have c51 : Tryz.prog.cellsOf 50 = 1 := by kernel_rfl
  have c5 : Tryz.prog.cellsOf 5 = 1 := by kernel_rfl
  rw [c0] at hl
  have hxl : ys.length = 4 := hxl
  simp only [Value.cells] at hl hf
  obtain ⟨v0, v1, v2, v3, v4, v5, v6, rfl⟩ := list_7 hl
  obtain ⟨y0, y1, y2, y3, rfl⟩ := list_4 hxl
  have g0 := hf 0 _ rfl
  have g1 := hf 1 _ rfl
  have g2 := hf 2 _ rfl
  have g3 := hf 3 _ rfl
  simp [c48, c50, c51, c5] at g0 g1 g2 g3
  obtain ⟨a, ts, c, rfl, hlen, htr, hcl⟩ := open_trees g0
  obtain ⟨zs, k2, _, _, hl2, hxl2, hf2⟩ := DataW.trod_array Tryz.underlying49 g1
  obtain ⟨z0, z1, z2, z3, rfl⟩ := list_4 hxl2
  have i0 := hf2 0 (by decide)
  have i1 := hf2 1 (by decide)
  have i2 := hf2 2 (by decide)
  have i3 := hf2 3 (by decide)
  simp [c49] at i0 i1 i2 i3
  obtain ⟨n0, e0, _, i8a⟩ := DataW.trod_int Tryz.underlying48 i0
  obtain ⟨n1, e1, _, i8b⟩ := DataW.trod_int Tryz.underlying48 i1
  obtain ⟨n2, e2, _, i8c⟩ := DataW.trod_int Tryz.underlying48 i2
  obtain ⟨n3, e3, _, i8d⟩ := DataW.trod_int Tryz.underlying48 i3
  obtain ⟨q, e6, _, w6⟩ := DataW.trod_int Tryz.underlying5 g3
  simp only [List.cons.injEq, and_true] at e0 e1 e2 e3 e6
  subst e0 e1 e2 e3 e6
  rcases open_slice Tryz.underlying50 g2 with ⟨e, _⟩ | ⟨b, len, cap, mm, n, D, Pl, e, _, hlc, hcm, _⟩
  · simp only [List.cons.injEq, and_true] at e
    subst e
    exact ⟨a, ts, c, n0, n1, n2, n3, none, 0, 0, q, rfl, htr, hlen, Nat.zero_le _, hcl, lit_u8 w6, lit_i8 i8a, lit_i8 i8b, lit_i8 i8c, lit_i8 i8d⟩
  · simp only [List.cons.injEq, and_true] at e
    subst e
    exact ⟨a, ts, c, n0, n1, n2, n3, some b, len, cap, q, rfl, htr, hlen, Nat.le_trans hlc hcm, hcl, lit_u8 w6, lit_i8 i8a, lit_i8 i8b, lit_i8 i8c, lit_i8 i8d⟩
end
end Go.Proofs.YtnddlpfmagdbfaaGreatDoor.Sto
/- Predicates and policies that are alike but for where they lie answer alike. -/
namespace Go.Proofs.YtnddlpfmagdbfaaGreatDoor
open Go Go.Proofs Go.RowKit
set_option linter.unusedVariables false
set_option linter.unusedSimpArgs false
/-- Two predicates are alike but for where they lie. -/
def SameP : Nat → PredD → PredD → Prop
  | 0, _, _ => True
  | n + 1, p, q => p.t = q.t ∧ p.args.length = q.args.length ∧ ∀ j (h : j < p.args.length) (h' : j < q.args.length), SameP n p.args[j] q.args[j]
theorem anyI_congr {r s : Nat → Bool} {n : Nat} (h : ∀ j, j < n → r j = s j) : anyI r n = anyI s n := by
  rw [Bool.eq_iff_iff]
  unfold anyI
  rw [List.any_eq_true, List.any_eq_true]
  constructor
  · rintro ⟨j, hj, k⟩; exact ⟨j, hj, by rw [← h j (List.mem_range.1 hj)]; exact k⟩
  · rintro ⟨j, hj, k⟩; exact ⟨j, hj, by rw [h j (List.mem_range.1 hj)]; exact k⟩
theorem holdsX_same (x : SpanD) : ∀ (n : Nat) (p q : PredD), SameP n p q → holdsX n p x = holdsX n q x
  | 0, _, _, _ => rfl
  | n + 1, p, q, h => by
    obtain ⟨ht, hl, ha⟩ := h
    by_cases h0 : q.t.op = 0
    · rw [holdsX, holdsX, ht, if_pos h0, if_pos h0]
    by_cases h1 : q.t.op = 1
    · rw [holdsX, holdsX, ht, if_neg h0, if_neg h0, if_pos h1, if_pos h1, ← hl]
      refine congrArg not (anyI_congr fun j hj' => ?_)
      by_cases hj : j < p.args.length
      · rw [List.getElem?_eq_getElem hj, List.getElem?_eq_getElem (hl ▸ hj)]
        exact congrArg not (holdsX_same x n _ _ (ha j hj (hl ▸ hj)))
      · rw [List.getElem?_eq_none (by omega), List.getElem?_eq_none (by omega)]
    by_cases h2 : q.t.op = 2
    · rw [holdsX, holdsX, ht, if_neg h0, if_neg h0, if_neg h1, if_neg h1, if_pos h2, if_pos h2, ← hl]
      refine anyI_congr fun j hj' => ?_
      by_cases hj : j < p.args.length
      · rw [List.getElem?_eq_getElem hj, List.getElem?_eq_getElem (hl ▸ hj)]
        exact (holdsX_same x n _ _ (ha j hj (hl ▸ hj)))
      · rw [List.getElem?_eq_none (by omega), List.getElem?_eq_none (by omega)]
    by_cases h3 : q.t.op = 3
    · rw [holdsX, holdsX, ht, if_neg h0, if_neg h0, if_neg h1, if_neg h1, if_neg h2, if_neg h2, if_pos h3, if_pos h3]
      refine congrArg not ?_
      by_cases hj : 0 < p.args.length
      · rw [List.getElem?_eq_getElem hj, List.getElem?_eq_getElem (hl ▸ hj)]
        exact holdsX_same x n _ _ (ha 0 hj (hl ▸ hj))
      · rw [List.getElem?_eq_none (by omega), List.getElem?_eq_none (by omega)]
    rw [holdsX, holdsX, ht, if_neg h0, if_neg h0, if_neg h1, if_neg h1, if_neg h2, if_neg h2, if_neg h3, if_neg h3]
/-- Two policies are alike but for where they lie. -/
structure SamePol (n : Nat) (p q : PolD) : Prop where
  len : p.rules.length = q.rules.length
  d : p.d = q.d
  e : ∀ j (h : j < p.rules.length) (h' : j < q.rules.length), p.rules[j].e = q.rules[j].e ∧ SameP n p.rules[j].p q.rules[j].p
theorem firstX_same {f : PredD → Bool} {n : Nat} (hf : ∀ p q, SameP n p q → f p = f q) (d : Int) : ∀ (L M : List RuleD), L.length = M.length → (∀ j (h : j < L.length) (h' : j < M.length), L[j].e = M[j].e ∧ SameP n L[j].p M[j].p) → firstX f d L = firstX f d M
  | [], [], _, _ => rfl
  | [], _ :: _, h, _ => by cases h
  | _ :: _, [], h, _ => by cases h
  | a :: L, b :: M, h, k => by
    have h0 := k 0 (by simp) (by simp)
    have hr := firstX_same hf d L M (by simpa using h) (fun j hj hj' => k (j + 1) (by simpa using hj) (by simpa using hj'))
    unfold firstX
    have e1 : f a.p = f b.p := hf _ _ h0.2
    have e2 : a.e = b.e := h0.1
    rw [hr, e1, e2]
theorem givenX_same {n : Nat} {p q : PolD} (h : SamePol n p q) (t : TraceD) : givenX n p t = givenX n q t := by
  unfold givenX
  rw [h.d]
  exact firstX_same (fun p q k => by
    congr 1
    funext x
    exact holdsX_same x n p q k) _ _ _ h.len h.e
end Go.Proofs.YtnddlpfmagdbfaaGreatDoor
/- Contract: the predicate that a number describes. -/
namespace Go.Proofs.YtnddlpfmagdbfaaGreatDoor
open Go Go.Proofs Go.RowKit
set_option linter.unusedVariables false
set_option linter.unusedSimpArgs false
/-- The predicate that a number describes. -/
def whereX (n : Nat) : PredD :=
  if n % 6 = 0 then .mk ⟨5, ⟨#[101, 114, 114, 111, 114]⟩, ⟨#[]⟩, 3, ⟨#[]⟩, 1⟩ none 0 []
  else if n % 6 = 1 then .mk ⟨6, ⟨#[100, 117, 114, 97, 116, 105, 111, 110]⟩, ⟨#[]⟩, 2, ⟨#[]⟩, ((n / 6 : Nat) : Int)⟩ none 0 []
  else if n % 6 = 2 then .mk ⟨5, ⟨#[115, 101, 114, 118, 105, 99, 101]⟩, ⟨#[]⟩, 1, if n / 6 % 3 = 0 then ⟨#[97, 112, 105]⟩ else if n / 6 % 3 = 1 then ⟨#[100, 98]⟩ else ⟨#[120]⟩, 0⟩ none 0 []
  else if n % 6 = 3 then .mk ⟨4, ⟨#[]⟩, ⟨#[115, 105, 122, 101]⟩, 0, ⟨#[]⟩, 0⟩ none 0 []
  else if h : n % 6 = 4 then .mk ⟨3, ⟨#[]⟩, ⟨#[]⟩, 0, ⟨#[]⟩, 0⟩ none 0 [whereX (n / 6)]
  else .mk ⟨0, ⟨#[]⟩, ⟨#[]⟩, 0, ⟨#[]⟩, 0⟩ none 0 []
termination_by n
decreasing_by omega
theorem ret_blk {P : Program} {fn : Func} {R : Ending → World → Prop} {a : Act} {W : World} {g : Nat} {cs : Array Value} {t : TypeId} {fr : Nat × Nat} {p : Tmp} {ty : TypeId} {d : TypeDesc} (h : W.heap[g]? = some (.cells cs t fr)) (hrs : fn.results = #[.cell p ty])
    (hp : a.tmps.getD p undef = .pointer (some ⟨g, 0, none⟩)) (hu : P.underlying ty = some d) (hd : (match d with | .struct _ | .array _ _ => true | _ => false) = true) (hi : (P.info? ty).map (·.size) = some cs.size) (hdef : a.defers = []) (hR : R (.returned (.agg cs)) W) : bodyPost P fn R .ret a W :=
  bodyPost_ret (results_cell_row hrs _ _ g t _ fr d hp h hu hd hi) hdef hR
def WhereP (L : Nat) (w : World) (n : Nat) (e : Ending) (w' : World) : Prop := ∃ p : PredD, e = .returned (.agg p.cells.toArray) ∧ SameP L p (whereX n) ∧ (∀ W, (∀ b, w.heap.size ≤ b → b < w'.heap.size → W.heap[b]? = w'.heap[b]?) → PredOK L W p) ∧ PredStr L p ∧ Below w.heap.size w w'
theorem leaf_same {L : Nat} {t : TestD} : SameP L (.mk t none 0 []) (.mk t none 0 []) := by
  cases L with
  | zero => trivial
  | succ L => exact ⟨rfl, rfl, fun j h => absurd h (Nat.not_lt_zero _)⟩
theorem leaf_ok {L : Nat} {t : TestD} {W : World} (h : t.text.size ≤ 9223372036854775807) (h3 : t.op ≠ 3) : PredOK (L + 1) W (.mk t none 0 []) :=
  ⟨⟨fun j h => absurd h (Nat.not_lt_zero _), Nat.zero_le _, h, fun e => absurd e h3⟩, fun q hq => absurd hq List.not_mem_nil⟩
theorem leaf_str {L : Nat} {t : TestD} (h : t.field.size ≤ 9223372036854775807 ∧ t.key.size ≤ 9223372036854775807) : PredStr (L + 1) (.mk t none 0 []) := ⟨h, fun q hq => absurd hq List.not_mem_nil⟩
set_option maxHeartbeats 4000000 in
set_option maxRecDepth 20000 in
theorem where_0 (L n : Nat) (hn : n ≤ 255) (h : n % 6 = 0) (w : World) : Calls Tryz.prog 33 #[.int .u8 n] w (WhereP (L + 1) w n) := by
  have hv := Lib.hid (show whereX n = .mk ⟨5, ⟨#[101, 114, 114, 111, 114]⟩, ⟨#[]⟩, 3, ⟨#[]⟩, 1⟩ none 0 [] by rw [whereX, if_pos h])
  have hm : (n : Int) % 6 = 0 := by omega
  go_enter Tryz.func33, Tryz.ntmps33
  go_wp2_with fail
  refine ret_blk (blk_new _ _ _) rfl rfl Tryz.underlying34 rfl (by kernel_rfl) rfl ?_
  exact ⟨_, rfl, by rw [hv.out]; exact leaf_same, fun _ _ => leaf_ok (by decide) (by decide), leaf_str (by decide), (Grew.alloc _ _).b⟩
set_option maxHeartbeats 4000000 in
set_option maxRecDepth 20000 in
theorem where_3 (L n : Nat) (hn : n ≤ 255) (h : n % 6 = 3) (w : World) : Calls Tryz.prog 33 #[.int .u8 n] w (WhereP (L + 1) w n) := by
  have hv := Lib.hid (show whereX n = .mk ⟨4, ⟨#[]⟩, ⟨#[115, 105, 122, 101]⟩, 0, ⟨#[]⟩, 0⟩ none 0 [] by rw [whereX, if_neg (by omega), if_neg (by omega), if_neg (by omega), if_pos h])
  have hm : (n : Int) % 6 = 3 := by omega
  go_enter Tryz.func33, Tryz.ntmps33
  go_wp2_with fail
  refine ret_blk (blk_new _ _ _) rfl rfl Tryz.underlying34 rfl (by kernel_rfl) rfl ?_
  exact ⟨_, rfl, by rw [hv.out]; exact leaf_same, fun _ _ => leaf_ok (by decide) (by decide), leaf_str (by decide), (Grew.alloc _ _).b⟩
set_option maxHeartbeats 4000000 in
set_option maxRecDepth 20000 in
theorem where_5 (L n : Nat) (hn : n ≤ 255) (h : n % 6 = 5) (w : World) : Calls Tryz.prog 33 #[.int .u8 n] w (WhereP (L + 1) w n) := by
  have hv := Lib.hid (show whereX n = .mk ⟨0, ⟨#[]⟩, ⟨#[]⟩, 0, ⟨#[]⟩, 0⟩ none 0 [] by rw [whereX, if_neg (by omega), if_neg (by omega), if_neg (by omega), if_neg (by omega), dif_neg (by omega)])
  have hm : (n : Int) % 6 = 5 := by omega
  go_enter Tryz.func33, Tryz.ntmps33
  go_wp2_with fail
  refine ret_blk (blk_new _ _ _) rfl rfl Tryz.underlying34 rfl (by kernel_rfl) rfl ?_
  exact ⟨_, rfl, by rw [hv.out]; exact leaf_same, fun _ _ => leaf_ok (by decide) (by decide), leaf_str (by decide), (Grew.alloc _ _).b⟩
set_option maxHeartbeats 4000000 in
set_option maxRecDepth 20000 in
theorem where_1 (L n : Nat) (hn : n ≤ 255) (h : n % 6 = 1) (w : World) : Calls Tryz.prog 33 #[.int .u8 n] w (WhereP (L + 1) w n) := by
  have hv := Lib.hid (show whereX n = .mk ⟨6, ⟨#[100, 117, 114, 97, 116, 105, 111, 110]⟩, ⟨#[]⟩, 2, ⟨#[]⟩, ((n / 6 : Nat) : Int)⟩ none 0 [] by rw [whereX, if_neg (by omega), if_pos h])
  have hm : (n : Int) % 6 = 1 := by omega
  have hq : (n : Int) / 6 = ((n / 6 : Nat) : Int) := by omega
  have hq2 : n / 6 ≤ 42 := by omega
  generalize n / 6 = k at *
  go_enter Tryz.func33, Tryz.ntmps33
  go_wp2_with fail
  refine ret_blk (blk_new _ _ _) rfl rfl Tryz.underlying34 rfl (by kernel_rfl) rfl ?_
  exact ⟨.mk ⟨6, ⟨#[100, 117, 114, 97, 116, 105, 111, 110]⟩, ⟨#[]⟩, 2, ⟨#[]⟩, (k : Int)⟩ none 0 [], rfl, by rw [hv.out]; exact leaf_same, fun _ _ => leaf_ok (by show (0 : Nat) ≤ _; omega) (by show (6 : Int) ≠ 3; decide), leaf_str ⟨by show (8 : Nat) ≤ _; omega, by show (0 : Nat) ≤ _; omega⟩, (Grew.alloc _ _).b⟩
set_option maxHeartbeats 4000000 in
set_option maxRecDepth 20000 in
theorem where_20 (L n : Nat) (hn : n ≤ 255) (h : n % 6 = 2) (hr : n / 6 % 3 = 0) (w : World) : Calls Tryz.prog 33 #[.int .u8 n] w (WhereP (L + 1) w n) := by
  have hv := Lib.hid (show whereX n = .mk ⟨5, ⟨#[115, 101, 114, 118, 105, 99, 101]⟩, ⟨#[]⟩, 1, ⟨#[97, 112, 105]⟩, 0⟩ none 0 [] by rw [whereX, if_neg (by omega), if_neg (by omega), if_pos h, hr]; rfl)
  have hm : (n : Int) % 6 = 2 := by omega
  have hq : (n : Int) / 6 % 3 = 0 := by omega
  go_enter Tryz.func33, Tryz.ntmps33
  go_wp2_with fail
  refine ret_blk ((Grew.alloc _ _).blk (blk_new _ _ _)) rfl rfl Tryz.underlying34 rfl (by kernel_rfl) rfl ?_
  exact ⟨_, rfl, by rw [hv.out]; exact leaf_same, fun _ _ => leaf_ok (by decide) (by decide), leaf_str (by decide), ((Grew.alloc _ _).trans (Grew.alloc _ _)).b⟩
set_option maxHeartbeats 4000000 in
set_option maxRecDepth 20000 in
theorem where_21 (L n : Nat) (hn : n ≤ 255) (h : n % 6 = 2) (hr : n / 6 % 3 = 1) (w : World) : Calls Tryz.prog 33 #[.int .u8 n] w (WhereP (L + 1) w n) := by
  have hv := Lib.hid (show whereX n = .mk ⟨5, ⟨#[115, 101, 114, 118, 105, 99, 101]⟩, ⟨#[]⟩, 1, ⟨#[100, 98]⟩, 0⟩ none 0 [] by rw [whereX, if_neg (by omega), if_neg (by omega), if_pos h, hr]; rfl)
  have hm : (n : Int) % 6 = 2 := by omega
  have hq : (n : Int) / 6 % 3 = 1 := by omega
  go_enter Tryz.func33, Tryz.ntmps33
  go_wp2_with fail
  refine ret_blk ((Grew.alloc _ _).blk (blk_new _ _ _)) rfl rfl Tryz.underlying34 rfl (by kernel_rfl) rfl ?_
  exact ⟨_, rfl, by rw [hv.out]; exact leaf_same, fun _ _ => leaf_ok (by decide) (by decide), leaf_str (by decide), ((Grew.alloc _ _).trans (Grew.alloc _ _)).b⟩
set_option maxHeartbeats 4000000 in
set_option maxRecDepth 20000 in
theorem where_22 (L n : Nat) (hn : n ≤ 255) (h : n % 6 = 2) (hr : n / 6 % 3 = 2) (w : World) : Calls Tryz.prog 33 #[.int .u8 n] w (WhereP (L + 1) w n) := by
  have hv := Lib.hid (show whereX n = .mk ⟨5, ⟨#[115, 101, 114, 118, 105, 99, 101]⟩, ⟨#[]⟩, 1, ⟨#[120]⟩, 0⟩ none 0 [] by rw [whereX, if_neg (by omega), if_neg (by omega), if_pos h, hr]; rfl)
  have hm : (n : Int) % 6 = 2 := by omega
  have hq : (n : Int) / 6 % 3 = 2 := by omega
  go_enter Tryz.func33, Tryz.ntmps33
  go_wp2_with fail
  refine ret_blk ((Grew.alloc _ _).blk (blk_new _ _ _)) rfl rfl Tryz.underlying34 rfl (by kernel_rfl) rfl ?_
  exact ⟨_, rfl, by rw [hv.out]; exact leaf_same, fun _ _ => leaf_ok (by decide) (by decide), leaf_str (by decide), ((Grew.alloc _ _).trans (Grew.alloc _ _)).b⟩
end Go.Proofs.YtnddlpfmagdbfaaGreatDoor
/- Contract: the predicate that a number describes, whole. -/
namespace Go.Proofs.YtnddlpfmagdbfaaGreatDoor
open Go Go.Proofs Go.RowKit
set_option linter.unusedVariables false
set_option linter.unusedSimpArgs false
theorem size_setC (g : Nat) : ∀ (vs : List Value) (o : Nat) (W : World), (W.setCells g o vs).heap.size = W.heap.size
  | [], _, _ => rfl
  | v :: vs, o, W => by
    simp only [World.setCells]
    rw [size_setC g vs (o + 1) _, World.size_setCell]
set_option maxHeartbeats 4000000 in
set_option maxRecDepth 20000 in
theorem where_4 (L n : Nat) (hn : n ≤ 255) (h : n % 6 = 4) (ih : ∀ W, Calls Tryz.prog 33 #[.int .u8 ((n / 6 : Nat) : Int)] W (WhereP (L + 1) W (n / 6))) (w : World) : Calls Tryz.prog 33 #[.int .u8 n] w (WhereP (L + 2) w n) := by
  have hv := Lib.hid (show whereX n = .mk ⟨3, ⟨#[]⟩, ⟨#[]⟩, 0, ⟨#[]⟩, 0⟩ none 0 [whereX (n / 6)] by rw [whereX, if_neg (by omega), if_neg (by omega), if_neg (by omega), if_neg (by omega), dif_pos (by omega)])
  have hm : (n : Int) % 6 = 4 := by omega
  have hq : (n : Int) / 6 = ((n / 6 : Nat) : Int) := by omega
  have hq2 : n / 6 ≤ 42 := by omega
  have HI := Lib.hid ih
  clear ih
  generalize n / 6 = k at *
  go_enter Tryz.func33, Tryz.ntmps33
  go_wp2_with fail
  refine (HI.out _).mono ?_
  rintro e w1 ⟨⟨t, A, c, l⟩, rfl, hs, hok, hstr, hb⟩
  have HS := Lib.hid hs
  have HO := Lib.hid hok
  have HT := Lib.hid hstr
  have HB := Lib.hid hb
  have HG := Lib.hid (blk_keep hb (blk_new _ _ _))
  clear hs hok hstr hb
  unfold PredD.cells
  simp only [PredD.t, PredD.A, PredD.c, PredD.args]
  rename_i K2 a2 K1 a1 K0 a0
  refine a0 _ _ ?_
  clear a0 K0
  refine wpList_plain rfl (fun K hK => ?_)
  go_simp
  refine hK _ _ ?_
  clear hK K
  refine wpList_plain rfl (fun K hK => ?_)
  go_simp
  refine hK _ _ ?_
  clear hK K
  refine wpList_store_mid rfl 34 (.tmp 2) (.tmp 35) rfl w.heap.size 0 _ rfl rfl (there_blk ((Grew.alloc _ _).blk HG.out) rfl) (by kernel_rfl) (by simp [Value.oneCell']) ?_
  refine k_run a1 ?_
  apply wp_ret
  refine ret_row ((Grew.alloc _ _).blk HG.out) rfl rfl rfl Tryz.underlying34 rfl (by kernel_rfl) rfl ?_
  have hlt := blk_lt HG.out
  have hz : ∀ vs : List Value, ((w1.alloc (.cells #[.int .i64 t.op, .string t.field, .string t.key, .int .i64 t.kind, .string t.text, .int .i64 t.num, .slice A l.length c] 34)).setCells w.heap.size 0 vs).heap.size = w1.heap.size + 1 := fun vs => by rw [size_setC]; simp
  refine ⟨.mk ⟨3, ⟨#[]⟩, ⟨#[]⟩, 0, ⟨#[]⟩, 0⟩ (some ⟨w1.heap.size, 0, none⟩) 1 [.mk t A c l], rfl, ?_, ?_, ?_, ?_⟩
  · rw [hv.out]
    refine ⟨rfl, rfl, fun j h h' => ?_⟩
    obtain rfl : j = 0 := by simp only [PredD.args, List.length_singleton] at h; omega
    exact HS.out
  · intro W hW
    refine ⟨⟨fun j hj => ?_, by show (1 : Nat) ≤ _; omega, by show (0 : Nat) ≤ _; omega, fun _ => by show (0 : Nat) < 1; omega⟩, fun q hq => ?_⟩
    · obtain rfl : j = 0 := by simp only [PredD.args, List.length_singleton] at hj; omega
      have hb : W.heap[w1.heap.size]? = some (.cells #[.int .i64 t.op, .string t.field, .string t.key, .int .i64 t.kind, .string t.text, .int .i64 t.num, .slice A l.length c] 34 (0, 0)) := by
        rw [hW _ (by omega) (by rw [hz]; omega), heap_setCells_other _ _ _ _ _ (by omega)]
        exact blk_new _ _ _
      exact ⟨_, rfl, cell_blk hb 0 rfl, cell_blk hb 1 rfl, cell_blk hb 2 rfl, cell_blk hb 3 rfl, cell_blk hb 4 rfl, cell_blk hb 5 rfl, cell_blk hb 6 rfl⟩
    · obtain rfl := List.mem_singleton.1 hq
      refine HO.out W fun b h1 h2 => ?_
      simp at h1
      rw [hW b (by omega) (by rw [hz]; omega), heap_setCells_other _ _ _ _ _ (by omega)]
      exact (Grew.alloc _ _).b.block _ h2
  · refine ⟨⟨by show (0 : Nat) ≤ _; omega, by show (0 : Nat) ≤ _; omega⟩, fun q hq => ?_⟩
    obtain rfl := List.mem_singleton.1 hq
    exact HT.out
  · exact below_setCells w.heap.size (Nat.le_refl _) _ 0 _ ((((Grew.alloc _ _).b.trans (HB.out.mono (by simp))).alloc (by omega) _))
/-- The predicate that a number describes. -/
theorem where_any : ∀ (L n : Nat), n ≤ 255 → n < 6 ^ L → ∀ w, Calls Tryz.prog 33 #[.int .u8 n] w (WhereP (L + 1) w n) := by
  intro L
  induction L with
  | zero =>
    intro n hn h w
    exact where_0 0 n hn (by simp at h; omega) w
  | succ L ih =>
    intro n hn hL w
    obtain h | h | h | h | h | h : n % 6 = 0 ∨ n % 6 = 1 ∨ n % 6 = 2 ∨ n % 6 = 3 ∨ n % 6 = 4 ∨ n % 6 = 5 := by omega
    · exact where_0 _ n hn h w
    · exact where_1 _ n hn h w
    · obtain k | k | k : n / 6 % 3 = 0 ∨ n / 6 % 3 = 1 ∨ n / 6 % 3 = 2 := by omega
      · exact where_20 _ n hn h k w
      · exact where_21 _ n hn h k w
      · exact where_22 _ n hn h k w
    · exact where_3 _ n hn h w
    · exact where_4 _ n hn h (fun W => ih _ (by omega) (by rw [Nat.pow_succ] at hL; omega) W) w
    · exact where_5 _ n hn h w
end Go.Proofs.YtnddlpfmagdbfaaGreatDoor
