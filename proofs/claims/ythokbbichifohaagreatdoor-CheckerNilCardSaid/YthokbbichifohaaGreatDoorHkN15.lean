/- What calls come to, as the kernel reckons it. -/
import Derived.Test.YthokbbichifohaaGreatDoorHkN14
import Derived.Test.YthokbbichifohaaGreatDoorEnv
set_option maxRecDepth 100000
namespace Go.Proofs.YthokbbichifohaaGreatDoor
open Go.Ev
def oN51 : Nat × AO := (16039, .row [iv 2, iv 0] 3 .own)
def oN52 : Nat × AO := (16040, .row [iv 2, iv 0] 3 .own)
def sqN7 : List (Nat × AO) := [oN51, oN52, oN48, oN49, oN29, oN30, oN31, oN32, oN33, oN34, oN35, oN50]
def hkN15 : Hook := { f := 4, args := [pv 14435, iv 100], H := G0 ++ sqN6, base := 16000, v := .tuple #[.agg #[iv 6, iv 4, .bool true, .slice none 0 0, iv 2, sv 16039 2 2, sv 16040 2 2], iv 0], R := sqN7, next := 17925 }
set_option linter.unusedSectionVars false
variable [Go.Ev.Frozen Tryz.prog]
theorem hkN15_run : hookRes hkN15 (evCallH Tryz.prog E0 (hand (hookAll [])) 300 hkN15.f hkN15.args ⟨putAll hkN15.H .e, hkN15.base⟩) = true := by kernel_rfl
theorem hkN15_shape : hookShape hkN15 = true := by kernel_rfl
theorem hkN15_ok : HookOK Tryz.prog (hookCall hkN15) := hook_ok (evCallH_ok envOK (hand_ok (hookAll_nil)) 300) hkN15_shape hkN15_run
end Go.Proofs.YthokbbichifohaaGreatDoor
