/- What calls come to, as the kernel reckons it. -/
import Derived.Test.YthokbbichifohaaGreatDoorHkN1
import Derived.Test.YthokbbichifohaaGreatDoorEnv
set_option maxRecDepth 100000
namespace Go.Proofs.YthokbbichifohaaGreatDoor
open Go.Ev
def txN1 : List UInt8 := [103,97,109,101,32,103,32,115,101,97,116,115,32,50,32,115,116,97,107,101,32,49,32,49,32,115,116,97,114,116,32,101,110,100,32,116,117,114,110,32,111,118,101,114,32,101,110,100,32,112,108,97,121,32,101,110,100,32,115,105,108,101,110,116,32,119,104,111,32,101,110,100,32,112,97,121,32,114,101,115,116,32,48,32,101,110,100]
def oN1 : Nat × AO := (3176, .row [iv 1, iv 1] 3 (.grown 2))
def oN2 : Nat × AO := (3180, .row [iv 7, mkStr [], .slice none 0 0, iv 0, iv 0, .slice none 0 0, .slice none 0 0] 217 (.grown 1))
def oN3 : Nat × AO := (3201, .row [iv 9, mkStr [], sv 3199 1 1, iv 0, iv 0, .slice none 0 0, .slice none 0 0] 217 (.grown 1))
def oN4 : Nat × AO := (3199, .row [iv 0, iv 0, mkStr [], .slice none 0 0] 268 .own)
def hkN2 : Hook := { f := 22, args := [mkStr txN1], H := G0, base := 3000, v := .tuple #[.agg #[mkStr [103], iv 2, sv 3176 2 2, .slice none 0 0, .slice none 0 0, sv 3180 1 1, .slice none 0 0, .slice none 0 0, mkStr [119,104,111], .slice none 0 0, sv 3201 1 1], .agg #[iv 0, iv 0], iv 0], R := [oN1, oN2, oN3, oN4], next := 3203 }
set_option linter.unusedSectionVars false
variable [Go.Ev.Frozen Tryz.prog]
theorem hkN2_run : hookRes hkN2 (evCallH Tryz.prog E0 (hand (hookAll [])) 300 hkN2.f hkN2.args ⟨putAll hkN2.H .e, hkN2.base⟩) = true := by kernel_rfl
theorem hkN2_shape : hookShape hkN2 = true := by kernel_rfl
theorem hkN2_ok : HookOK Tryz.prog (hookCall hkN2) := hook_ok (evCallH_ok envOK (hand_ok (hookAll_nil)) 300) hkN2_shape hkN2_run
end Go.Proofs.YthokbbichifohaaGreatDoor
