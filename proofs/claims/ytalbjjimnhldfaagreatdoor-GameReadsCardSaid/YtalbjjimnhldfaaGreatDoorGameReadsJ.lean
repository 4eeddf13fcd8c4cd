/- What the row of GameReads says of the program's text is so. -/
import Derived.Test.YtalbjjimnhldfaaGreatDoorRows
import Derived.Test.YtalbjjimnhldfaaGreatDoorChecked
import Derived.KernelRfl
import Derived.LaidMore
import Derived.Stop.Joined
set_option maxRecDepth 100000
namespace Go.Proofs.YtalbjjimnhldfaaGreatDoor.gameReads
theorem j1 : (Rows.gameReadsRow.inPlace == Tryz.pinned.checked.prog.inPlace 6) = true := by kernel_rfl
theorem j2 : (Rows.gameReadsRow.unfollowed == Tryz.pinned.checked.prog.unfollowed 6) = true := by kernel_rfl
theorem j3 : (Rows.gameReadsRow.recurses == Tryz.pinned.checked.prog.recurses 6) = true := by kernel_rfl
theorem j4 : (Rows.gameReadsRow.named == Tryz.pinned.checked.prog.varsNamed 6) = true := by kernel_rfl
theorem j5 : (laidOutB Tryz.pinned.checked.prog && mapsRowed Tryz.pinned.checked.prog) = true := by kernel_rfl
theorem facts : joinedFacts Tryz.pinned.checked.prog 6 Tryz.f6 Rows.gameReadsSpec Rows.gameReadsRow = true := by
  have h5 := j5
  simp only [Bool.and_eq_true] at h5
  unfold joinedFacts
  rw [j1, j2, j3, j4, h5.1, h5.2]
  show (_ : Bool) = true
  kernel_rfl
end Go.Proofs.YtalbjjimnhldfaaGreatDoor.gameReads
