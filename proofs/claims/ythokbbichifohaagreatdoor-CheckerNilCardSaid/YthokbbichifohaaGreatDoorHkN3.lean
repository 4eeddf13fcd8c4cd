/- What calls come to, as the kernel reckons it. -/
import Derived.Test.YthokbbichifohaaGreatDoorHkN2
import Derived.Test.YthokbbichifohaaGreatDoorEnv
set_option maxRecDepth 100000
namespace Go.Proofs.YthokbbichifohaaGreatDoor
open Go.Ev
def oN5 : Nat × AO := (4097, .row [iv 0, iv 2, .slice none 0 0, .slice none 0 0, sv 4104 1 1, sv 4117 3 3, sv 4124 1 1, sv 4131 1 1, sv 4150 5 5, iv 8, iv 10, iv 8, iv 8, iv 12] 136 .own)
def oN6 : Nat × AO := (4104, .row (ivs [0,0,0,0]) 257 (.grown 1))
def oN7 : Nat × AO := (4117, .row [iv 1, iv 4, nv 0, iv 0, iv 0, iv 0, iv 0, iv 0, iv 0, iv 0, iv 0, iv 0] 257 (.grown 3))
def oN8 : Nat × AO := (4124, .row (ivs [0,0,0,0]) 257 (.grown 1))
def oN9 : Nat × AO := (4131, .row (ivs [0,0,0,0]) 257 (.grown 1))
def oN10 : Nat × AO := (4150, .row (ivs [1,33,0,0,18,34,33,2,5,33,33,34,2,7,33,0,0,0,0,0]) 257 (.grown 5))
def sqN1 : List (Nat × AO) := [oN5, oN6, oN7, oN8, oN9, oN10, oN1, oN2, oN3, oN4]
def hkN3 : Hook := { f := 47, args := [.agg #[mkStr [103], iv 2, sv 3176 2 2, .slice none 0 0, .slice none 0 0, sv 3180 1 1, .slice none 0 0, .slice none 0 0, mkStr [119,104,111], .slice none 0 0, sv 3201 1 1]], H := G0 ++ [oN1, oN2, oN3, oN4], base := 4000, v := .tuple #[pv 4097, iv 0], R := sqN1, next := 4151 }
set_option linter.unusedSectionVars false
variable [Go.Ev.Frozen Tryz.prog]
theorem hkN3_run : hookRes hkN3 (evCallH Tryz.prog E0 (hand (hookAll [])) 300 hkN3.f hkN3.args ⟨putAll hkN3.H .e, hkN3.base⟩) = true := by kernel_rfl
theorem hkN3_shape : hookShape hkN3 = true := by kernel_rfl
theorem hkN3_ok : HookOK Tryz.prog (hookCall hkN3) := hook_ok (evCallH_ok envOK (hand_ok (hookAll_nil)) 300) hkN3_shape hkN3_run
end Go.Proofs.YthokbbichifohaaGreatDoor
