/- What calls come to, as the kernel reckons it. -/
import Derived.Test.YthokbbichifohaaGreatDoorHkN12
import Derived.Test.YthokbbichifohaaGreatDoorEnv
set_option maxRecDepth 100000
namespace Go.Proofs.YthokbbichifohaaGreatDoor
open Go.Ev
def oN47 : Nat × AO := (14436, .row (bvs [103,97,109,101,32,103,10,115,101,97,116,115,32,50,10,115,116,97,107,101,32,49,32,49,10,118,97,114,32,110,32,48,32,49,10,115,116,97,114,116,10,101,110,100,10,116,117,114,110,10,32,32,105,102,32,110,32,116,104,101,110,10,32,32,32,32,111,118,101,114,10,32,32,101,108,115,101,10,32,32,32,32,115,101,97,116,32,48,10,32,32,101,110,100,10,101,110,100,10,112,108,97,121,10,32,32,110,32,61,32,49,10,101,110,100,10,115,105,108,101,110,116,32,119,104,111,10,101,110,100,10,112,97,121,10,32,32,114,101,115,116,32,48,10,101,110,100,10]) 5 (.grown 148))
def hkN13 : Hook := { f := 50, args := [sv 14436 148 148], H := G0 ++ [oN47], base := 15000, v := .agg #[bv 24, bv 9, bv 152, bv 32, bv 116, bv 8, bv 25, bv 191], R := [oN47], next := 15026 }
set_option linter.unusedSectionVars false
variable [Go.Ev.Frozen Tryz.prog]
theorem hkN13_run : hookRes hkN13 (evCallH Tryz.prog E0 (hand (hookAll [])) 300 hkN13.f hkN13.args ⟨putAll hkN13.H .e, hkN13.base⟩) = true := by kernel_rfl
theorem hkN13_shape : hookShape hkN13 = true := by kernel_rfl
theorem hkN13_ok : HookOK Tryz.prog (hookCall hkN13) := hook_ok (evCallH_ok envOK (hand_ok (hookAll_nil)) 300) hkN13_shape hkN13_run
end Go.Proofs.YthokbbichifohaaGreatDoor
