/- The example, and the rules of the law's own text, as they were reckoned. -/
import Derived.Test.YthokbbichifohaaGreatDoorHkN16
namespace Go.Proofs.YthokbbichifohaaGreatDoor
open Go.Ev
abbrev hkPar : Hook := hkN7
abbrev hkTold : Hook := hkN16
set_option linter.unusedSectionVars false
variable [Go.Ev.Frozen Tryz.prog]
theorem hkPar_ok : HookOK Tryz.prog (hookCall hkPar) := hkN7_ok
theorem hkTold_ok : HookOK Tryz.prog (hookCall hkTold) := hkN16_ok
end Go.Proofs.YthokbbichifohaaGreatDoor
