/- What calls come to, as the kernel reckons it. -/
import Derived.Test.YthokbbichifohaaGreatDoorHkN8
import Derived.Test.YthokbbichifohaaGreatDoorEnv
set_option maxRecDepth 100000
namespace Go.Proofs.YthokbbichifohaaGreatDoor
open Go.Ev
def txN3 : List UInt8 := [103,97,109,101,32,103,32,115,101,97,116,115,32,50,32,115,116,97,107,101,32,49,32,49,32,118,97,114,32,110,32,48,32,49,32,115,116,97,114,116,32,101,110,100,32,116,117,114,110,32,105,102,32,110,32,116,104,101,110,32,111,118,101,114,32,101,108,115,101,32,115,101,97,116,32,48,32,101,110,100,32,101,110,100,32,112,108,97,121,32,110,32,61,32,49,32,101,110,100,32,115,105,108,101,110,116,32,119,104,111,32,101,110,100,32,112,97,121,32,114,101,115,116,32,48,32,101,110,100]
def oN18 : Nat × AO := (11274, .row [iv 1, iv 1] 3 (.grown 2))
def oN19 : Nat × AO := (11281, .row [mkStr [110], iv 0, iv 0, iv 1] 124 (.grown 1))
def oN20 : Nat × AO := (11327, .row [iv 2, mkStr [], sv 11300 1 1, iv 0, iv 0, sv 11305 1 1, sv 11325 1 1] 217 (.grown 1))
def oN21 : Nat × AO := (11300, .row [iv 1, iv 0, mkStr [110], .slice none 0 0] 268 .own)
def oN22 : Nat × AO := (11305, .row [iv 7, mkStr [], .slice none 0 0, iv 0, iv 0, .slice none 0 0, .slice none 0 0] 217 (.grown 1))
def oN23 : Nat × AO := (11325, .row [iv 6, mkStr [], sv 11323 1 1, iv 0, iv 0, .slice none 0 0, .slice none 0 0] 217 (.grown 1))
def oN24 : Nat × AO := (11323, .row [iv 0, iv 0, mkStr [], .slice none 0 0] 268 .own)
def oN25 : Nat × AO := (11351, .row [iv 0, mkStr [110], sv 11349 1 1, iv 0, iv 0, .slice none 0 0, .slice none 0 0] 217 (.grown 1))
def oN26 : Nat × AO := (11349, .row [iv 0, iv 1, mkStr [], .slice none 0 0] 268 (.grown 1))
def oN27 : Nat × AO := (11372, .row [iv 9, mkStr [], sv 11370 1 1, iv 0, iv 0, .slice none 0 0, .slice none 0 0] 217 (.grown 1))
def oN28 : Nat × AO := (11370, .row [iv 0, iv 0, mkStr [], .slice none 0 0] 268 .own)
def sqN3 : List (Nat × AO) := [oN18, oN19, oN20, oN21, oN22, oN23, oN24, oN25, oN26, oN27, oN28]
def hkN9 : Hook := { f := 22, args := [mkStr txN3], H := G0, base := 11000, v := .tuple #[.agg #[mkStr [103], iv 2, sv 11274 2 2, sv 11281 1 1, .slice none 0 0, sv 11327 1 1, .slice none 0 0, sv 11351 1 1, mkStr [119,104,111], .slice none 0 0, sv 11372 1 1], .agg #[iv 0, iv 0], iv 0], R := sqN3, next := 11374 }
set_option linter.unusedSectionVars false
variable [Go.Ev.Frozen Tryz.prog]
theorem hkN9_run : hookRes hkN9 (evCallH Tryz.prog E0 (hand (hookAll [])) 300 hkN9.f hkN9.args ⟨putAll hkN9.H .e, hkN9.base⟩) = true := by kernel_rfl
theorem hkN9_shape : hookShape hkN9 = true := by kernel_rfl
theorem hkN9_ok : HookOK Tryz.prog (hookCall hkN9) := hook_ok (evCallH_ok envOK (hand_ok (hookAll_nil)) 300) hkN9_shape hkN9_run
end Go.Proofs.YthokbbichifohaaGreatDoor
