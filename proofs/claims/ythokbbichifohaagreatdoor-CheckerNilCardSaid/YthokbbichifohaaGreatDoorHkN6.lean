/- What calls come to, as the kernel reckons it. -/
import Derived.Test.YthokbbichifohaaGreatDoorHkN5
import Derived.Test.YthokbbichifohaaGreatDoorEnv
set_option maxRecDepth 100000
namespace Go.Proofs.YthokbbichifohaaGreatDoor
open Go.Ev
def oN15 : Nat × AO := (6227, .row (bvs [103,97,109,101,32,103,10,115,101,97,116,115,32,50,10,115,116,97,107,101,32,49,32,49,10,115,116,97,114,116,10,101,110,100,10,116,117,114,110,10,32,32,111,118,101,114,10,101,110,100,10,112,108,97,121,10,101,110,100,10,115,105,108,101,110,116,32,119,104,111,10,101,110,100,10,112,97,121,10,32,32,114,101,115,116,32,48,10,101,110,100,10]) 5 (.grown 92))
def hkN6 : Hook := { f := 50, args := [sv 6227 92 92], H := G0 ++ [oN15], base := 7000, v := .agg #[bv 29, bv 211, bv 80, bv 232, bv 104, bv 185, bv 28, bv 197], R := [oN15], next := 7019 }
set_option linter.unusedSectionVars false
variable [Go.Ev.Frozen Tryz.prog]
theorem hkN6_run : hookRes hkN6 (evCallH Tryz.prog E0 (hand (hookAll [])) 300 hkN6.f hkN6.args ⟨putAll hkN6.H .e, hkN6.base⟩) = true := by kernel_rfl
theorem hkN6_shape : hookShape hkN6 = true := by kernel_rfl
theorem hkN6_ok : HookOK Tryz.prog (hookCall hkN6) := hook_ok (evCallH_ok envOK (hand_ok (hookAll_nil)) 300) hkN6_shape hkN6_run
end Go.Proofs.YthokbbichifohaaGreatDoor
