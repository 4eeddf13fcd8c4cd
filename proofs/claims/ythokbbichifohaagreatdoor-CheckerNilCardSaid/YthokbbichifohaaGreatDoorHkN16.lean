/- What calls come to, as the kernel reckons it. -/
import Derived.Test.YthokbbichifohaaGreatDoorHkN15
import Derived.Test.YthokbbichifohaaGreatDoorEnv
set_option maxRecDepth 100000
namespace Go.Proofs.YthokbbichifohaaGreatDoor
open Go.Ev
def hkN16 : Hook := { f := 8, args := [], H := G0, base := 9000, v := .bool true, R := [], next := 17926 }
set_option linter.unusedSectionVars false
variable [Go.Ev.Frozen Tryz.prog]
theorem hkN16_run : hookRes hkN16 (evCallH Tryz.prog E0 (hand (hookAll [hkN14, hkN15])) 300 hkN16.f hkN16.args ⟨putAll hkN16.H .e, hkN16.base⟩) = true := by kernel_rfl
theorem hkN16_shape : hookShape hkN16 = true := by kernel_rfl
theorem hkN16_ok : HookOK Tryz.prog (hookCall hkN16) := hook_ok (evCallH_ok envOK (hand_ok (hookAll_cons hkN14_ok (hookAll_cons hkN15_ok hookAll_nil))) 300) hkN16_shape hkN16_run
end Go.Proofs.YthokbbichifohaaGreatDoor
