/- What the row of SubBack says of the program's text is so. -/
import Derived.Test.YtfkacmmcgncooaaGreatDoorRows
import Derived.Test.YtfkacmmcgncooaaGreatDoorChecked
import Derived.KernelRfl
import Derived.LaidMore
import Derived.Stop.Joined
set_option maxRecDepth 100000
namespace Go.Proofs.YtfkacmmcgncooaaGreatDoor.subBack
theorem j1 : (Rows.subBackRow.inPlace == Tryz.pinned.checked.prog.inPlace 5) = true := by kernel_rfl
theorem j2 : (Rows.subBackRow.unfollowed == Tryz.pinned.checked.prog.unfollowed 5) = true := by kernel_rfl
theorem j3 : (Rows.subBackRow.recurses == Tryz.pinned.checked.prog.recurses 5) = true := by kernel_rfl
theorem j4 : (Rows.subBackRow.named == Tryz.pinned.checked.prog.varsNamed 5) = true := by kernel_rfl
theorem j5 : (laidOutB Tryz.pinned.checked.prog && mapsRowed Tryz.pinned.checked.prog) = true := by kernel_rfl
theorem facts : joinedFacts Tryz.pinned.checked.prog 5 Tryz.f5 Rows.subBackSpec Rows.subBackRow = true := by
 have h5 := j5
 simp only [Bool.and_eq_true] at h5
 unfold joinedFacts
 rw [j1, j2, j3, j4, h5.1, h5.2]
 show (_ : Bool) = true
 kernel_rfl
end Go.Proofs.YtfkacmmcgncooaaGreatDoor.subBack
