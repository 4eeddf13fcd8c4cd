/- What calls come to, as the kernel reckons it. -/
import Derived.Test.YthokbbichifohaaGreatDoorHkN4
import Derived.Test.YthokbbichifohaaGreatDoorEnv
set_option maxRecDepth 100000
namespace Go.Proofs.YthokbbichifohaaGreatDoor
open Go.Ev
def hkN5 : Hook := { f := 48, args := [.agg #[mkStr [103], iv 2, sv 3176 2 2, .slice none 0 0, .slice none 0 0, sv 3180 1 1, .slice none 0 0, .slice none 0 0, mkStr [119,104,111], .slice none 0 0, sv 3201 1 1]], H := G0 ++ [oN1, oN2, oN3, oN4], base := 5000, v := .tuple #[mkStr txN2, iv 0], R := [oN1, oN2, oN3, oN4], next := 6224 }
set_option linter.unusedSectionVars false
variable [Go.Ev.Frozen Tryz.prog]
theorem hkN5_run : hookRes hkN5 (evCallH Tryz.prog E0 (hand (hookAll [hkN4])) 300 hkN5.f hkN5.args ⟨putAll hkN5.H .e, hkN5.base⟩) = true := by kernel_rfl
theorem hkN5_shape : hookShape hkN5 = true := by kernel_rfl
theorem hkN5_ok : HookOK Tryz.prog (hookCall hkN5) := hook_ok (evCallH_ok envOK (hand_ok (hookAll_cons hkN4_ok hookAll_nil)) 300) hkN5_shape hkN5_run
end Go.Proofs.YthokbbichifohaaGreatDoor
