/- Contract: the spans of a story. -/
import Derived.Test.YtmhmnbaoanennaaGreatDoorTraces
namespace Go.Proofs.YtmhmnbaoanennaaGreatDoor
open Go Go.Ev Go.Proofs Go.RowKit
set_option linter.unusedVariables false
set_option linter.unusedSimpArgs false
theorem wpList_append_any {P : Program} {w : World} {ops : Array Oper} {rest : List Oper} {o : Oper} {a : Act} {Q : Exit → Act → World → Prop} (hgd : o.guard = none) (s x : Operand) (t : TypeId)
    (ho : o.op = .call { callee := .builtin .append, args := #[s, x], argTypes := #[t, t] })
    (base : Nat) (e : TypeId) (i : TypeInfo) (z : Value) (size : Nat) (ht : P.underlying t = some (.slice e)) (hi : P.info? e = some i) (hz : i.zero = some z)
    (hsize : i.size = size) (hby : i.bytes ≤ 1000) (hzs : z.cells.size = size) (hsz : 0 < size)
    (v : Value) (n : Nat) (xs : List Value) (hs : a.eval s = v) (hown : w.ownsRow base e size v n xs)
    (ad : Option Addr) (m c : Nat) (news : List Value) (hx : a.eval x = .slice ad m c) (hl : news.length = m * size) (hnil : ad = none → m = 0 ∧ c = 0) (hnews : ∀ p, ad = some p → ∀ j u, news[j]? = some u → w.cell? (p.add j) = some u) (h1 : ∀ u ∈ news, u.oneCell' = true)
    (h63 : n + m ≤ 1000) (hbase : base ≤ w.heap.size)
    (h : ∀ v' w', w'.ownsRow base e size v' (n + m) (xs ++ news) → w.grownBy w' v.ownBlock → (v'.ownBlock = v.ownBlock ∨ v'.ownBlock = some w.heap.size) → wpList P ops Q rest (a.put o.dst v') w') : wpList P ops Q (o :: rest) a w :=
  wpList_plain hgd fun _ hK => wp_append_any s x t ho base e i z size ht hi hz hsize hby hzs hsz v n xs hs hown ad m c news hx hl hnil hnews h1 h63 hbase fun v' w' h2 h3 h5 => hK _ _ (h v' w' h2 h3 h5)
theorem cellsT_get2 : ∀ {tds : List TrD} {k : Nat} (h : k < tds.length), (tds.flatMap cellsT)[k * 3 + 2]? = some (.slice tds[k].a tds[k].m tds[k].c)
  | t :: tds, 0, _ => rfl
  | t :: tds, k + 1, h => by
    rw [List.flatMap_cons, List.getElem?_append_right (by simp only [cellsT, List.length_cons, List.length_nil]; omega), show (k + 1) * 3 + 2 - (cellsT t).length = k * 3 + 2 from by simp only [cellsT, List.length_cons, List.length_nil]; omega]
    exact cellsT_get2 (by simpa using h)
set_option maxRecDepth 20000 in
set_option maxHeartbeats 8000000 in
theorem spans_any (a : Option Addr) (ts : List TreeD) (c : Nat) (o0 o1 o2 o3 : Int) (b : Option Addr) (m d : Nat) (q : Int) (hq : isU8 q) (w : World) (ht : TreesAt w a ts) (hcl : ∀ j (hj : j < ts.length), ts[j].cs.length ≤ 8) (hl : ts.length ≤ 3) :
    Calls Tryz.prog 49 #[.agg #[.slice a ts.length c, .int .i8 o0, .int .i8 o1, .int .i8 o2, .int .i8 o3, .slice b m d, .int .u8 q]] w fun e w' => (∃ a' n c', e = .returned (.slice a' n c') ∧ ∃ news, w'.ownsRow 0 89 14 (.slice a' n c') n news ∧ (∀ u ∈ news, u.oneCell' = true) ∧ n ≤ 24) ∧ Below w.heap.size w w' := by
  have hbw := below_alloc w (.cells #[.slice a ts.length c, .int .i8 o0, .int .i8 o1, .int .i8 o2, .int .i8 o3, .slice b m d, .int .u8 q] 53)
  have HB0 := Lib.hid hbw
  have HT := Lib.hid (traces_any a ts c o0 o1 o2 o3 b m d q hq _ (ht.below hbw) hcl hl)
  clear ht hcl hbw
  obtain ⟨t3, z3, ht3, ht3z, ht3s, ht3b, ht3c⟩ := infoSz_spec info89
  go_enter Tryz.func49, Tryz.ntmps49
  go_wp2_with fail
  refine HT.out.mono ?_
  rintro e w1 ⟨⟨v, tds, rfl, hO, htl⟩, hbb⟩
  have HB1 := Lib.hid (below_on HB0.out hbb (by simp))
  obtain ⟨a4, c4, rfl, hform⟩ := row_forms3 hO.1
  have HO := Lib.hid hO
  clear HB0 HT hbb hO
  have htl' : (tds.length : Int) ≤ 3 := by omega
  go_wp2_with fail
  go_loopw [3, 5] (fun v3 i wr => ∃ (j n : Nat) (news : List Value), j ≤ tds.length ∧ n ≤ 8 * j ∧ i = .int .i64 j ∧ Hid (Below w1.heap.size w1 wr) ∧ Hid (wr.ownsRow w1.heap.size 89 14 v3 n news) ∧ Hid (∀ u ∈ news, u.oneCell' = true)) (fun _ i _ => tds.length - (intOf i).toNat)
  case atStart => exact ⟨0, 0, [], by omega, by omega, rfl, Lib.hid (Below.refl _ _), Lib.hid (World.ownsRow_nil _ _ _ _), Lib.hid (by simp)⟩
  case round =>
    obtain ⟨j, n, news, hj, hn, rfl, HB, HR, H1⟩ := hrel
    by_cases hlt : j < tds.length
    · obtain ⟨g, rfl, hc4, hm4⟩ := hform.resolve_left (by omega)
      have y2 := ((HO.out.below HB.out).1.cellAt (j * 3 + 2) (by omega)).trans (cellsT_get2 hlt)
      obtain ⟨hm8, xs, hx, hx1⟩ := ((HO.out.2 _ (List.getElem_mem hlt)).below HB.out)
      generalize tds[j] = t at *
      obtain ⟨tid, ta, tm, tc⟩ := t
      simp only at y2 hm8 hx
      have hxf := row_forms3 hx
      have HX := Lib.hid (show ∀ p, ta = some p → ∀ j u, xs[j]? = some u → wr.cell? (p.add j) = some u from fun p hp j u hu => by
        subst hp
        obtain ⟨a', c', he, hf⟩ := hxf
        cases he
        obtain ⟨g', hg', _⟩ := hf.resolve_left (fun h => by cases h.1)
        cases hg'
        exact hx.cells rfl j u hu)
      have HN := Lib.hid (show ta = none → tm = 0 ∧ tc = 0 from fun h => by
        subst h
        obtain ⟨a', c', he, hf⟩ := hxf
        cases he
        rcases hf with hf | ⟨g', hg', _⟩
        · exact ⟨hf.2.1, hf.2.2⟩
        · cases hg')
      have HL := Lib.hid hx.1
      have HX1 := Lib.hid hx1
      clear hxf hx hx1
      have hsz := HB.out.size
      go_wp2_with (at_builtin; refine wpList_append_any rfl (.tmp 14) (.tmp 19) 58 rfl w1.heap.size 89 t3 z3 14 Tryz.underlying58 ht3 ht3z ht3s ht3b ht3c (by decide) u3 n news rfl HR.out ta tm tc xs rfl HL.out HN.out HX.out HX1.out (by omega) hsz ?_; intro v9 w9 hown hgr hat)
      exact ⟨⟨j + 1, n + tm, news ++ xs, by omega, by omega, by go_num, Lib.hid (below_grown HB.out hgr (fun i hi => (HR.out.lt i hi).1) hsz), Lib.hid hown, Lib.hid (fun u hu => (List.mem_append.1 hu).elim (H1.out u) (HX1.out u))⟩, by simp [intOf]; omega⟩
    · obtain rfl : j = tds.length := by omega
      obtain ⟨a7, c7, rfl, _⟩ := row_forms HR.out
      go_wp2_with fail
      go_ret
      exact ⟨⟨a7, n, c7, rfl, news, row_mono HR.out (Nat.zero_le _), H1.out, by omega⟩, below_on HB1.out HB.out HB1.out.size⟩
end Go.Proofs.YtmhmnbaoanennaaGreatDoor
