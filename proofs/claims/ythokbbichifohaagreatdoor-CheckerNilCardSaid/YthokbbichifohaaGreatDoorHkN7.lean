/- What calls come to, as the kernel reckons it. -/
import Derived.Test.YthokbbichifohaaGreatDoorHkN6
import Derived.Test.YthokbbichifohaaGreatDoorEnv
set_option maxRecDepth 100000
namespace Go.Proofs.YthokbbichifohaaGreatDoor
open Go.Ev
def oN16 : Nat × AO := (6226, .row [mkStr [103], sv 6225 2 2, bv 204, bv 27, bv 72, bv 127, bv 234, bv 122, bv 253, bv 40, pv 4097, .slice none 0 0, .slice none 0 0] 85 .own)
def oN17 : Nat × AO := (6225, .row [iv 1, iv 1] 3 (.grown 2))
def sqN2 : List (Nat × AO) := [oN16, oN17, oN5, oN6, oN7, oN8, oN9, oN10]
def hkN7 : Hook := { f := 9, args := [mkStr txN1], H := G0, base := 2000, v := .tuple #[pv 6226, iv 0], R := sqN2, next := 7030 }
set_option linter.unusedSectionVars false
variable [Go.Ev.Frozen Tryz.prog]
theorem hkN7_run : hookRes hkN7 (evCallH Tryz.prog E0 (hand (hookAll [hkN2, hkN3, hkN5, hkN6])) 300 hkN7.f hkN7.args ⟨putAll hkN7.H .e, hkN7.base⟩) = true := by kernel_rfl
theorem hkN7_shape : hookShape hkN7 = true := by kernel_rfl
theorem hkN7_ok : HookOK Tryz.prog (hookCall hkN7) := hook_ok (evCallH_ok envOK (hand_ok (hookAll_cons hkN2_ok (hookAll_cons hkN3_ok (hookAll_cons hkN5_ok (hookAll_cons hkN6_ok hookAll_nil))))) 300) hkN7_shape hkN7_run
end Go.Proofs.YthokbbichifohaaGreatDoor
