/- What the row of SubInner says of the program's text is so. -/
import Derived.Test.YtfkacmmcgncooaaGreatDoorRows
import Derived.Test.YtfkacmmcgncooaaGreatDoorChecked
import Derived.KernelRfl
import Derived.LaidMore
import Derived.Stop.Joined
set_option maxRecDepth 100000
namespace Go.Proofs.YtfkacmmcgncooaaGreatDoor.subInner
theorem j1 : (Rows.subInnerRow.inPlace == Tryz.pinned.checked.prog.inPlace 3) = true := by kernel_rfl
theorem j2 : (Rows.subInnerRow.unfollowed == Tryz.pinned.checked.prog.unfollowed 3) = true := by kernel_rfl
theorem j3 : (Rows.subInnerRow.recurses == Tryz.pinned.checked.prog.recurses 3) = true := by kernel_rfl
theorem j4 : (Rows.subInnerRow.named == Tryz.pinned.checked.prog.varsNamed 3) = true := by kernel_rfl
theorem j5 : (laidOutB Tryz.pinned.checked.prog && mapsRowed Tryz.pinned.checked.prog) = true := by kernel_rfl
theorem facts : joinedFacts Tryz.pinned.checked.prog 3 Tryz.f3 Rows.subInnerSpec Rows.subInnerRow = true := by
  have h5 := j5
  simp only [Bool.and_eq_true] at h5
  unfold joinedFacts
  rw [j1, j2, j3, j4, h5.1, h5.2]
  show (_ : Bool) = true
  kernel_rfl
end Go.Proofs.YtfkacmmcgncooaaGreatDoor.subInner
