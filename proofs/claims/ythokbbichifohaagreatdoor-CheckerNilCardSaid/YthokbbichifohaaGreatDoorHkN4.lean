/- What calls come to, as the kernel reckons it. -/
import Derived.Test.YthokbbichifohaaGreatDoorHkN3
import Derived.Test.YthokbbichifohaaGreatDoorEnv
set_option maxRecDepth 100000
namespace Go.Proofs.YthokbbichifohaaGreatDoor
open Go.Ev
def txN2 : List UInt8 := [103,97,109,101,32,103,10,115,101,97,116,115,32,50,10,115,116,97,107,101,32,49,32,49,10,115,116,97,114,116,10,101,110,100,10,116,117,114,110,10,32,32,111,118,101,114,10,101,110,100,10,112,108,97,121,10,101,110,100,10,115,105,108,101,110,116,32,119,104,111,10,101,110,100,10,112,97,121,10,32,32,114,101,115,116,32,48,10,101,110,100,10]
def oN11 : Nat × AO := (6181, .row [iv 1, iv 1] 3 (.grown 2))
def oN12 : Nat × AO := (6185, .row [iv 7, mkStr [], .slice none 0 0, iv 0, iv 0, .slice none 0 0, .slice none 0 0] 217 (.grown 1))
def oN13 : Nat × AO := (6206, .row [iv 9, mkStr [], sv 6204 1 1, iv 0, iv 0, .slice none 0 0, .slice none 0 0] 217 (.grown 1))
def oN14 : Nat × AO := (6204, .row [iv 0, iv 0, mkStr [], .slice none 0 0] 268 .own)
def hkN4 : Hook := { f := 22, args := [mkStr txN2], H := G0, base := 6000, v := .tuple #[.agg #[mkStr [103], iv 2, sv 6181 2 2, .slice none 0 0, .slice none 0 0, sv 6185 1 1, .slice none 0 0, .slice none 0 0, mkStr [119,104,111], .slice none 0 0, sv 6206 1 1], .agg #[iv 0, iv 0], iv 0], R := [oN11, oN12, oN13, oN14], next := 6208 }
set_option linter.unusedSectionVars false
variable [Go.Ev.Frozen Tryz.prog]
theorem hkN4_run : hookRes hkN4 (evCallH Tryz.prog E0 (hand (hookAll [])) 300 hkN4.f hkN4.args ⟨putAll hkN4.H .e, hkN4.base⟩) = true := by kernel_rfl
theorem hkN4_shape : hookShape hkN4 = true := by kernel_rfl
theorem hkN4_ok : HookOK Tryz.prog (hookCall hkN4) := hook_ok (evCallH_ok envOK (hand_ok (hookAll_nil)) 300) hkN4_shape hkN4_run
end Go.Proofs.YthokbbichifohaaGreatDoor
