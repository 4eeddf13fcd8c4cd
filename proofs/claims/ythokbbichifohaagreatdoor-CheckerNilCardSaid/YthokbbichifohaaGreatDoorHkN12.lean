/- What calls come to, as the kernel reckons it. -/
import Derived.Test.YthokbbichifohaaGreatDoorHkN11
import Derived.Test.YthokbbichifohaaGreatDoorEnv
set_option maxRecDepth 100000
namespace Go.Proofs.YthokbbichifohaaGreatDoor
open Go.Ev
def hkN12 : Hook := { f := 48, args := [.agg #[mkStr [103], iv 2, sv 11274 2 2, sv 11281 1 1, .slice none 0 0, sv 11327 1 1, .slice none 0 0, sv 11351 1 1, mkStr [119,104,111], .slice none 0 0, sv 11372 1 1]], H := G0 ++ sqN3, base := 13000, v := .tuple #[mkStr txN4, iv 0], R := sqN3, next := 14433 }
set_option linter.unusedSectionVars false
variable [Go.Ev.Frozen Tryz.prog]
theorem hkN12_run : hookRes hkN12 (evCallH Tryz.prog E0 (hand (hookAll [hkN11])) 300 hkN12.f hkN12.args ⟨putAll hkN12.H .e, hkN12.base⟩) = true := by kernel_rfl
theorem hkN12_shape : hookShape hkN12 = true := by kernel_rfl
theorem hkN12_ok : HookOK Tryz.prog (hookCall hkN12) := hook_ok (evCallH_ok envOK (hand_ok (hookAll_cons hkN11_ok hookAll_nil)) 300) hkN12_shape hkN12_run
end Go.Proofs.YthokbbichifohaaGreatDoor
