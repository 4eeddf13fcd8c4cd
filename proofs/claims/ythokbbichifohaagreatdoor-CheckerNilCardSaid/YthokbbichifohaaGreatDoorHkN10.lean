/- What calls come to, as the kernel reckons it. -/
import Derived.Test.YthokbbichifohaaGreatDoorHkN9
import Derived.Test.YthokbbichifohaaGreatDoorEnv
set_option maxRecDepth 100000
namespace Go.Proofs.YthokbbichifohaaGreatDoor
open Go.Ev
def oN29 : Nat × AO := (12180, .row [iv 1, iv 2, sv 12183 1 1, .slice none 0 0, sv 12194 1 1, sv 12231 9 9, sv 12256 4 4, sv 12267 1 1, sv 12290 5 5, iv 8, iv 16, iv 12, iv 8, iv 12] 136 .own)
def oN30 : Nat × AO := (12183, .row [wv32 0] 21 (.grown 1))
def oN31 : Nat × AO := (12194, .row (ivs [0,0,0,0]) 257 (.grown 1))
def oN32 : Nat × AO := (12231, .row [iv 2, iv 34, iv 0, iv 0, iv 20, iv 5, iv 34, iv 0, iv 1, iv 5, nv 0, iv 0, iv 0, iv 0, iv 0, iv 0, iv 19, iv 8, iv 0, iv 0, iv 1, iv 34, iv 0, iv 0, iv 2, iv 5, iv 34, iv 0, iv 0, iv 0, iv 0, iv 0, iv 0, iv 0, iv 0, iv 0] 257 (.grown 9))
def oN33 : Nat × AO := (12256, .row (ivs [1,34,1,0,17,34,0,1,2,0,34,0,0,0,0,0]) 257 (.grown 4))
def oN34 : Nat × AO := (12267, .row (ivs [0,0,0,0]) 257 (.grown 1))
def oN35 : Nat × AO := (12290, .row (ivs [1,34,0,0,18,35,34,2,5,34,34,35,2,8,34,0,0,0,0,0]) 257 (.grown 5))
def sqN4 : List (Nat × AO) := [oN29, oN30, oN31, oN32, oN33, oN34, oN35, oN18, oN19, oN20, oN21, oN22, oN23, oN24, oN25, oN26, oN27, oN28]
def hkN10 : Hook := { f := 47, args := [.agg #[mkStr [103], iv 2, sv 11274 2 2, sv 11281 1 1, .slice none 0 0, sv 11327 1 1, .slice none 0 0, sv 11351 1 1, mkStr [119,104,111], .slice none 0 0, sv 11372 1 1]], H := G0 ++ sqN3, base := 12000, v := .tuple #[pv 12180, iv 0], R := sqN4, next := 12291 }
set_option linter.unusedSectionVars false
variable [Go.Ev.Frozen Tryz.prog]
theorem hkN10_run : hookRes hkN10 (evCallH Tryz.prog E0 (hand (hookAll [])) 300 hkN10.f hkN10.args ⟨putAll hkN10.H .e, hkN10.base⟩) = true := by kernel_rfl
theorem hkN10_shape : hookShape hkN10 = true := by kernel_rfl
theorem hkN10_ok : HookOK Tryz.prog (hookCall hkN10) := hook_ok (evCallH_ok envOK (hand_ok (hookAll_nil)) 300) hkN10_shape hkN10_run
end Go.Proofs.YthokbbichifohaaGreatDoor
