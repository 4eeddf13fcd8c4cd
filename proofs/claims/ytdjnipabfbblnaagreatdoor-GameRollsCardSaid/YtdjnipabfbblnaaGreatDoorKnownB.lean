/- The chapter's example (baizelaw17.known), as the kernel reckons it: it is true. -/
import Derived.Test.YtdjnipabfbblnaaGreatDoorHkB9
import Derived.Test.YtdjnipabfbblnaaGreatDoorEvW
import Derived.Test.YtdjnipabfbblnaaGreatDoorRows
set_option maxRecDepth 100000
namespace Go.Proofs.YtdjnipabfbblnaaGreatDoor
open Go.Ev
open Go.RowKit (Below)
set_option linter.unusedSectionVars false
variable [Go.Ev.Frozen Tryz.prog]
theorem hooksB : HookOK Tryz.prog (hookAll [hkB1, hkB2, hkB3, hkB4, hkB5, hkB6, hkB7, hkB8, hkB9]) := hookAll_cons hkB1_ok (hookAll_cons hkB2_ok (hookAll_cons hkB3_ok (hookAll_cons hkB4_ok (hookAll_cons hkB5_ok (hookAll_cons hkB6_ok (hookAll_cons hkB7_ok (hookAll_cons hkB8_ok (hookAll_cons hkB9_ok hookAll_nil))))))))
theorem known17_run : resIs (.bool true) (evCallH Tryz.prog E0 (hookAll [hkB1, hkB2, hkB3, hkB4, hkB5, hkB6, hkB7, hkB8, hkB9]) 300 22 [] ⟨putAll G0 .e, 13⟩) = true := by kernel_rfl
end Go.Proofs.YtdjnipabfbblnaaGreatDoor
