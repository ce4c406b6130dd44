/- Contract: is a story short. -/
import Derived.Test.YtmhmnbaoanennaaGreatDoorStory
namespace Go.Proofs.YtmhmnbaoanennaaGreatDoor
open Go Go.Ev Go.Proofs Go.RowKit
set_option linter.unusedVariables false
set_option linter.unusedSimpArgs false
/-- What the answer says. -/
def ShortP (ts : List TreeD) (m : Nat) (e : Ending) : Prop := ∃ r : Bool, e = .returned (.bool r) ∧ (r = true → ts.length ≤ 3 ∧ m ≤ 6 ∧ ∀ j (hj : j < ts.length), ts[j].cs.length ≤ 8)
theorem ShortP.no {ts : List TreeD} {m : Nat} : ShortP ts m (.returned (.bool false)) := ⟨false, rfl, fun h => by cases h⟩
theorem ShortP.yes {ts : List TreeD} {m : Nat} (h1 : ts.length ≤ 3) (h2 : m ≤ 6) (h3 : ∀ j (hj : j < ts.length), ts[j].cs.length ≤ 8) : ShortP ts m (.returned (.bool true)) := ⟨true, rfl, fun _ => ⟨h1, h2, h3⟩⟩
set_option maxRecDepth 20000 in
set_option maxHeartbeats 4000000 in
theorem short_any (a : Option Addr) (ts : List TreeD) (c : Nat) (o0 o1 o2 o3 : Int) (b : Option Addr) (m d : Nat) (q : Int) (w : World) (ht : TreesAt w a ts) (hl : ts.length ≤ maxLen) (hm : m ≤ maxLen) (hcl : ∀ j (hj : j < ts.length), ts[j].cs.length ≤ maxLen) :
    Calls Tryz.prog 46 #[.agg #[.slice a ts.length c, .int .i8 o0, .int .i8 o1, .int .i8 o2, .int .i8 o3, .slice b m d, .int .u8 q]] w fun e w' =>
      ShortP ts m e ∧ Below w.heap.size w w' := by
  have HB := Lib.hid (below_alloc w (.cells #[.slice a ts.length c, .int .i8 o0, .int .i8 o1, .int .i8 o2, .int .i8 o3, .slice b m d, .int .u8 q] 53))
  have HT := Lib.hid (ht.below HB.out)
  have HC := Lib.hid hcl
  clear ht hcl
  unfold maxLen at hl hm
  go_enter Tryz.func46, Tryz.ntmps46
  go_wp2_with fail
  go_loopw [3] (fun i wr => ∃ j : Nat, j ≤ ts.length ∧ i = .int .i64 j ∧ wr = w.alloc (.cells #[.slice a ts.length c, .int .i8 o0, .int .i8 o1, .int .i8 o2, .int .i8 o3, .slice b m d, .int .u8 q] 53) ∧ Hid (∀ k (hk : k < ts.length), k < j → ts[k].cs.length ≤ 8)) (fun i _ => ts.length - (intOf i).toNat)
  case atStart => exact ⟨0, by omega, rfl, rfl, Lib.hid (fun k _ hk => by omega)⟩
  case round =>
    obtain ⟨j, hj, rfl, rfl, hG⟩ := hrel
    by_cases hlt : j < ts.length
    · obtain ⟨ad, rfl, h0, h1, h2, h3, h4, h5⟩ := HT.out j hlt
      have hcj := HC.out j hlt
      unfold maxLen at hcj
      have HN : Hid (ts[j].cs.length ≤ 8 → ∀ k (hk : k < ts.length), k < j + 1 → ts[k].cs.length ≤ 8) := Lib.hid (fun h k hk hkj => by
        by_cases hkj2 : k = j
        · subst hkj2; exact h
        · exact hG.out k hk (by omega))
      clear h0 h1 h3 h4 h5
      generalize ts[j] = x at *
      go_wp2_with fail
      all_goals first
        | (go_ret; exact ⟨ShortP.no, HB.out⟩)
        | (have h8 : x.cs.length ≤ 8 := by omega
           exact ⟨⟨j + 1, by omega, by go_num, trivial, Lib.hid (HN.out h8)⟩, by simp [intOf]; omega⟩)
    · obtain rfl : j = ts.length := by omega
      go_wp2_with fail
      all_goals
        go_ret
        refine ⟨?_, HB.out⟩
        first
          | exact ShortP.no
          | (show ShortP ts m (.returned (.bool (decide ((m : Int) ≤ 6))))
             by_cases hm6 : (m : Int) ≤ 6
             · rw [decide_eq_true hm6]
               exact ShortP.yes (by omega) (by omega) fun k hk => hG.out k hk hk
             · rw [decide_eq_false hm6]
               exact ShortP.no)
end Go.Proofs.YtmhmnbaoanennaaGreatDoor
