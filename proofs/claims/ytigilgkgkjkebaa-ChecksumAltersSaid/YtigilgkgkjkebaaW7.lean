/- Contracts: Link, and the reference's Link. -/
import Derived.Test.YtigilgkgkjkebaaGoExtends
import Derived.Test.YtigilgkgkjkebaaPChecksumChainsx1
namespace Go.Proofs.Ytigilgkgkjkebaa
open Go.RowKit Go.Proofs.YtigilgkgkjkebaaW.PrintWords
set_option linter.unusedVariables false
set_option linter.unusedSimpArgs false

/-- The lowest c bytes of a number, the lowest one first. -/
def le (n : Nat) (c : Nat) : List UInt8 := (List.range c).map fun i => UInt8.ofNat (n / 2 ^ (8 * i) % 256)
def leI (n : Nat) (c : Nat) : List Int := (le n c).map fun b => (b.toNat : Int)
theorem le_succ (n c : Nat) : le n (c + 1) = le n c ++ [UInt8.ofNat (n / 2 ^ (8 * c) % 256)] := by unfold le; rw [List.range_succ, List.map_append]; rfl
theorem leI_succ (n c : Nat) : leI n (c + 1) = leI n c ++ [((n / 2 ^ (8 * c) % 256 : Nat) : Int)] := by
  unfold leI; rw [le_succ, List.map_append]; simp
theorem le_length (n c : Nat) : (le n c).length = c := by simp [le]
theorem leI_length (n c : Nat) : (leI n c).length = c := by simp [leI, le_length]

theorem own_next {W : World} {B : Nat} {v : Value} {n k : Nat} {y : Int} (hown : W.ownsRow B 5 1 v (leI n k ++ [y]).length (nums .u8 (leI n k ++ [y]))) (hy : y = ((n / 2 ^ (8 * k) % 256 : Nat) : Int)) : W.ownsRow B 5 1 v (k + 1) (nums .u8 (leI n (k + 1))) := by
  subst hy
  rw [leI_succ]
  simpa [leI_length] using hown

theorem own_next2 {W : World} {B : Nat} {v : Value} {m n j k : Nat} {y : Int} (hown : W.ownsRow B 5 1 v (leI m j ++ leI n k ++ [y]).length (nums .u8 (leI m j ++ leI n k ++ [y]))) (hy : y = ((n / 2 ^ (8 * k) % 256 : Nat) : Int)) : W.ownsRow B 5 1 v (j + (k + 1)) (nums .u8 (leI m j ++ leI n (k + 1))) := by
  subst hy
  rw [leI_succ, ← List.append_assoc]
  simpa [leI_length, Nat.add_assoc] using hown
/-- The string of some bytes. -/
def bstr (l : List UInt8) : ByteArray := ⟨l.toArray⟩
theorem bstr_of (l : List UInt8) : strOfNums (l.map fun b => (b.toNat : Int)) = bstr l := by
  have h := strOfNums_data (l.map fun b => (b.toNat : Int))
  rw [List.map_map] at h
  have h2 : (l.map ((fun n : Int => UInt8.ofNat n.toNat) ∘ fun b : UInt8 => (b.toNat : Int))) = l := by
    conv => rhs; rw [← List.map_id l]
    apply List.map_congr_left
    intro b _
    simp
  rw [h2] at h
  unfold bstr
  cases hs : strOfNums (l.map fun b => (b.toNat : Int)) with
  | mk d =>
    rw [hs] at h
    show ByteArray.mk d = _
    rw [← h]
theorem own_str {W : World} {B : Nat} {v : Value} {m n j k : Nat} (h : W.ownsRow B 5 1 v (j + k) (nums .u8 (leI m j ++ leI n k))) : (convert 43 9 v).run Try.prog W = .ok (.string (bstr (le m j ++ le n k))) W := by
  rw [← bstr_of, List.map_append]
  exact own_string Try.underlying43 Try.underlying5 Try.underlying9 h
theorem sum_bytes (l : List UInt8) (hl : l.length ≤ 500) (w : World) : Calls Try.prog 17 #[.string (bstr l)] w fun e w' => e = .returned (.int .u32 (n32 (Crc.sum l))) ∧ w = w' :=
  sum_any (bstr l) (by unfold maxLen bstr; show l.toArray.size ≤ _; simp; omega) w

set_option maxHeartbeats 1000000 in
theorem link_any (n : Int) (p : BitVec 32) (s : ByteArray) (hn : n = n32 p) (hs : s.size ≤ maxLen) (w : World) :
    Calls Try.prog 29 #[.int .u32 n, .string s] w fun e w' => e = .returned (.int .u32 (n32 (Crc.extend (Crc.sum (le p.toNat 4 ++ le s.size 8)) s.data.toList))) ∧ Below w.heap.size w w' := by
  subst hn
  have hs' := hs
  have HL : Hid ((le p.toNat 4 ++ le s.size 8).length ≤ 500) := Lib.hid (by rw [List.length_append, le_length, le_length]; omega)
  unfold maxLen at hs
  have hmk : ∀ W : World, (Instr.makeSlice 43 (.int .i64 0) (.int .i64 12)).run Try.prog W = .ok (.slice (some ⟨W.heap.size, 0, none⟩) 0 12) (W.alloc (.cells (Array.replicate 12 (.int .u8 0)) 5)) := fun W => by kernel_rfl
  go_enter Try.func29, Try.ntmps29
  go_wp2
  go_loopw [5, 10] (fun v i wr => ∃ k : Nat, k ≤ 4 ∧ i = .int .i64 k ∧ wr.ownsRow w.heap.size 5 1 v k (nums .u8 (leI p.toNat k)) ∧ Below w.heap.size w wr) (fun _ i _ => 4 - (intOf i).toNat)
  case atStart => exact ⟨0, by omega, rfl, World.ownsRow_made w _ 12 (Nat.le_refl _) (by unfold maxLen; omega) (by simp), (Below.refl _ _).alloc (Nat.le_refl _) _⟩
  case round =>
    obtain ⟨k, hk, rfl, hO, hB⟩ := hrel
    by_cases hlt : k < 4
    · have HO : Hid (wr.ownsRow w.heap.size 5 1 u5 (leI p.toNat k).length (nums .u8 (leI p.toNat k))) := Lib.hid (by rw [leI_length]; exact hO)
      have HB := Lib.hid hB
      clear hO hB
      go_wp2_with (at_builtin; refine print_append_num (w0 := w) w.heap.size rfl (.tmp 13) (.tmp 19) 43 5 .u8 1 rfl Try.underlying43 (by kernel_rfl) (by decide) _ (leI p.toNat k) _ rfl rfl HO.out HB.out HB.out.size (by rw [leI_length]; omega) ?_; intro v1 w1 hown hB2 _ _)
      have HO1 := own_next hown (by unfold n32; simp)
      go_roundw
      case rel => exact ⟨k + 1, by omega, by go_num, HO1, hB2⟩
      case measure => simp [intOf]; omega
    · obtain rfl : k = 4 := by omega
      have HO := Lib.hid hO
      have HB := Lib.hid hB
      clear hO hB
      go_wp2
      simp only [Int.cast_ofNat_Int]
      go_loopw [5, 25] (fun v i wr => ∃ k : Nat, k ≤ 8 ∧ i = .int .i64 k ∧ wr.ownsRow w.heap.size 5 1 v (4 + k) (nums .u8 (leI p.toNat 4 ++ leI s.size k)) ∧ Below w.heap.size w wr) (fun _ i _ => 8 - (intOf i).toNat)
      case atStart => exact ⟨0, by omega, rfl, by simpa [leI, le] using HO.out, HB.out⟩
      case round =>
        clear HO HB
        obtain ⟨k, hk, rfl, hO, hB⟩ := hrel
        by_cases hlt : k < 8
        · have HO : Hid (wr.ownsRow w.heap.size 5 1 u5 (leI p.toNat 4 ++ leI s.size k).length (nums .u8 (leI p.toNat 4 ++ leI s.size k))) := Lib.hid (by rw [List.length_append, leI_length, leI_length]; exact hO)
          have HB := Lib.hid hB
          clear hO hB
          go_wp2_with (at_builtin; refine print_append_num (w0 := w) w.heap.size rfl (.tmp 28) (.tmp 34) 43 5 .u8 1 rfl Try.underlying43 (by kernel_rfl) (by decide) _ (leI p.toNat 4 ++ leI s.size k) _ rfl rfl HO.out HB.out HB.out.size (by rw [List.length_append, leI_length, leI_length]; omega) ?_; intro v1 w1 hown hB2 _ _)
          have HO1 := own_next2 hown (by simp)
          go_roundw
          case rel => exact ⟨k + 1, by omega, by go_num, HO1, hB2⟩
          case measure => simp [intOf]; omega
        · obtain rfl : k = 8 := by omega
          have kc := own_str hO
          have HB := Lib.hid hB
          clear hO hB
          go_wp2_with fail
          (with_reducible refine (sum_bytes _ HL.out _).mono ?_)
          rintro e w' ⟨rfl, rfl⟩
          go_wp2_with fail
          (with_reducible refine (extend_any _ _ s rfl hs' _).mono ?_)
          rintro e w' ⟨rfl, rfl⟩
          go_wp2
          go_ret
          exact ⟨rfl, HB.out⟩

end Go.Proofs.Ytigilgkgkjkebaa
