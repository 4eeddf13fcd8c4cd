/- What the row of SolveFractions says of the program's text is so. -/
import Derived.Test.YtamjbnfmpfgjcaaGreatDoorRows
import Derived.Test.YtamjbnfmpfgjcaaGreatDoorChecked
import Derived.KernelRfl
import Derived.LaidMore
import Derived.Stop.Joined
set_option maxRecDepth 100000
namespace Go.Proofs.YtamjbnfmpfgjcaaGreatDoor.solveFractions
theorem j1 : (Rows.solveFractionsRow.inPlace == Tryz.pinned.checked.prog.inPlace 3) = true := by kernel_rfl
theorem j2 : (Rows.solveFractionsRow.unfollowed == Tryz.pinned.checked.prog.unfollowed 3) = true := by kernel_rfl
theorem j3 : (Rows.solveFractionsRow.recurses == Tryz.pinned.checked.prog.recurses 3) = true := by kernel_rfl
theorem j4 : (Rows.solveFractionsRow.named == Tryz.pinned.checked.prog.varsNamed 3) = true := by kernel_rfl
theorem j5 : (laidOutB Tryz.pinned.checked.prog && mapsRowed Tryz.pinned.checked.prog) = true := by kernel_rfl
theorem facts : joinedFacts Tryz.pinned.checked.prog 3 Tryz.f3 Rows.solveFractionsSpec Rows.solveFractionsRow = true := by
  have h5 := j5
  simp only [Bool.and_eq_true] at h5
  unfold joinedFacts
  rw [j1, j2, j3, j4, h5.1, h5.2]
  show (_ : Bool) = true
  kernel_rfl
end Go.Proofs.YtamjbnfmpfgjcaaGreatDoor.solveFractions
