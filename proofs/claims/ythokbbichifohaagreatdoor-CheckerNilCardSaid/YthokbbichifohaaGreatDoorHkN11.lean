/- What calls come to, as the kernel reckons it. -/
import Derived.Test.YthokbbichifohaaGreatDoorHkN10
import Derived.Test.YthokbbichifohaaGreatDoorEnv
set_option maxRecDepth 100000
namespace Go.Proofs.YthokbbichifohaaGreatDoor
open Go.Ev
def txN4 : List UInt8 := [103,97,109,101,32,103,10,115,101,97,116,115,32,50,10,115,116,97,107,101,32,49,32,49,10,118,97,114,32,110,32,48,32,49,10,115,116,97,114,116,10,101,110,100,10,116,117,114,110,10,32,32,105,102,32,110,32,116,104,101,110,10,32,32,32,32,111,118,101,114,10,32,32,101,108,115,101,10,32,32,32,32,115,101,97,116,32,48,10,32,32,101,110,100,10,101,110,100,10,112,108,97,121,10,32,32,110,32,61,32,49,10,101,110,100,10,115,105,108,101,110,116,32,119,104,111,10,101,110,100,10,112,97,121,10,32,32,114,101,115,116,32,48,10,101,110,100,10]
def oN36 : Nat × AO := (14293, .row [iv 1, iv 1] 3 (.grown 2))
def oN37 : Nat × AO := (14300, .row [mkStr [110], iv 0, iv 0, iv 1] 124 (.grown 1))
def oN38 : Nat × AO := (14346, .row [iv 2, mkStr [], sv 14319 1 1, iv 0, iv 0, sv 14324 1 1, sv 14344 1 1] 217 (.grown 1))
def oN39 : Nat × AO := (14319, .row [iv 1, iv 0, mkStr [110], .slice none 0 0] 268 .own)
def oN40 : Nat × AO := (14324, .row [iv 7, mkStr [], .slice none 0 0, iv 0, iv 0, .slice none 0 0, .slice none 0 0] 217 (.grown 1))
def oN41 : Nat × AO := (14344, .row [iv 6, mkStr [], sv 14342 1 1, iv 0, iv 0, .slice none 0 0, .slice none 0 0] 217 (.grown 1))
def oN42 : Nat × AO := (14342, .row [iv 0, iv 0, mkStr [], .slice none 0 0] 268 .own)
def oN43 : Nat × AO := (14370, .row [iv 0, mkStr [110], sv 14368 1 1, iv 0, iv 0, .slice none 0 0, .slice none 0 0] 217 (.grown 1))
def oN44 : Nat × AO := (14368, .row [iv 0, iv 1, mkStr [], .slice none 0 0] 268 (.grown 1))
def oN45 : Nat × AO := (14391, .row [iv 9, mkStr [], sv 14389 1 1, iv 0, iv 0, .slice none 0 0, .slice none 0 0] 217 (.grown 1))
def oN46 : Nat × AO := (14389, .row [iv 0, iv 0, mkStr [], .slice none 0 0] 268 .own)
def sqN5 : List (Nat × AO) := [oN36, oN37, oN38, oN39, oN40, oN41, oN42, oN43, oN44, oN45, oN46]
def hkN11 : Hook := { f := 22, args := [mkStr txN4], H := G0, base := 14000, v := .tuple #[.agg #[mkStr [103], iv 2, sv 14293 2 2, sv 14300 1 1, .slice none 0 0, sv 14346 1 1, .slice none 0 0, sv 14370 1 1, mkStr [119,104,111], .slice none 0 0, sv 14391 1 1], .agg #[iv 0, iv 0], iv 0], R := sqN5, next := 14393 }
set_option linter.unusedSectionVars false
variable [Go.Ev.Frozen Tryz.prog]
theorem hkN11_run : hookRes hkN11 (evCallH Tryz.prog E0 (hand (hookAll [])) 300 hkN11.f hkN11.args ⟨putAll hkN11.H .e, hkN11.base⟩) = true := by kernel_rfl
theorem hkN11_shape : hookShape hkN11 = true := by kernel_rfl
theorem hkN11_ok : HookOK Tryz.prog (hookCall hkN11) := hook_ok (evCallH_ok envOK (hand_ok (hookAll_nil)) 300) hkN11_shape hkN11_run
end Go.Proofs.YthokbbichifohaaGreatDoor
