/- What the row of RetentionNil says of its function, reckoned fact by fact. -/
import Derived.Test.YtmhmnbaoanennaaGreatDoorRows
import Derived.JoinedOf
namespace Go.Proofs.YtmhmnbaoanennaaGreatDoor.retentionNil
open Go Go.ChangeShapes
theorem facts_inPlace : Tryz.prog.inPlace 12 = ["maps.clone"] := by kernel_rfl
theorem facts_unfollowed : Tryz.prog.unfollowed 12 = true := by kernel_rfl
theorem facts_recurses : Tryz.prog.recurses 12 = true := by kernel_rfl
theorem facts_named : Tryz.prog.varsNamed 12 = ["math/bits.deBruijn32tab", "math/bits.deBruijn64tab"] := by kernel_rfl
theorem facts : joinedFacts Tryz.prog 12 Tryz.f12 Rows.retentionNilSpec Rows.retentionNilRow = true := by
  unfold joinedFacts
  rw [facts_inPlace, facts_unfollowed, facts_recurses, facts_named]
  kernel_rfl
end Go.Proofs.YtmhmnbaoanennaaGreatDoor.retentionNil
