/- What calls come to, as the kernel reckons it. -/
import Derived.Test.YthokbbichifohaaGreatDoorHkN13
import Derived.Test.YthokbbichifohaaGreatDoorEnv
set_option maxRecDepth 100000
namespace Go.Proofs.YthokbbichifohaaGreatDoor
open Go.Ev
def oN48 : Nat × AO := (14435, .row [mkStr [103], sv 14434 2 2, bv 68, bv 161, bv 57, bv 133, bv 95, bv 122, bv 19, bv 3, pv 12180, .slice none 0 0, sv 15041 1 1] 85 .own)
def oN49 : Nat × AO := (14434, .row [iv 1, iv 1] 3 (.grown 2))
def oN50 : Nat × AO := (15041, .row [wv32 0, wv32 1] 99 (.grown 1))
def sqN6 : List (Nat × AO) := [oN48, oN49, oN29, oN30, oN31, oN32, oN33, oN34, oN35, oN50]
def hkN14 : Hook := { f := 9, args := [mkStr txN3], H := G0, base := 10000, v := .tuple #[pv 14435, iv 0], R := sqN6, next := 15042 }
set_option linter.unusedSectionVars false
variable [Go.Ev.Frozen Tryz.prog]
theorem hkN14_run : hookRes hkN14 (evCallH Tryz.prog E0 (hand (hookAll [hkN9, hkN10, hkN12, hkN13])) 300 hkN14.f hkN14.args ⟨putAll hkN14.H .e, hkN14.base⟩) = true := by kernel_rfl
theorem hkN14_shape : hookShape hkN14 = true := by kernel_rfl
theorem hkN14_ok : HookOK Tryz.prog (hookCall hkN14) := hook_ok (evCallH_ok envOK (hand_ok (hookAll_cons hkN9_ok (hookAll_cons hkN10_ok (hookAll_cons hkN12_ok (hookAll_cons hkN13_ok hookAll_nil))))) 300) hkN14_shape hkN14_run
end Go.Proofs.YthokbbichifohaaGreatDoor
