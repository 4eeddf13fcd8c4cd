/- What a call comes to, as the kernel reckons it. -/
import Derived.Test.YthnjebcablpneaaGreatDoorHkA9
import Derived.Test.YthnjebcablpneaaGreatDoorEnv
set_option maxRecDepth 100000
namespace Go.Proofs.YthnjebcablpneaaGreatDoor
open Go.Ev
def hkA10 : Hook := { f := 41, args := [.int .i64 (.ofNat 2)], H := G0, base := 10000, v := .slice (some ⟨10733, 0, none⟩) 2 2, R := [(10733, .row [.int .u8 (.ofNat 212), .int .u8 (.ofNat 182), .int .u8 (.ofNat 203), .int .u8 (.ofNat 96), .int .u8 (.ofNat 95), .int .u8 (.ofNat 230), .int .u8 (.ofNat 24), .int .u8 (.ofNat 33), .int .u8 (.ofNat 142), .int .u8 (.ofNat 184), .int .u8 (.ofNat 201), .int .u8 (.ofNat 113), .int .u8 (.ofNat 128), .int .u8 (.ofNat 157), .int .u8 (.ofNat 208), .int .u8 (.ofNat 199)] 52 (.grown 2))], next := 10734 }
theorem hkA10_run : hookRes hkA10 (evCallH Tryz.prog E0 (hookAll [hkA1, hkA2, hkA3, hkA4, hkA5, hkA6, hkA7, hkA8, hkA9]) 300 hkA10.f hkA10.args ⟨putAll hkA10.H .e, hkA10.base⟩) = true := by kernel_rfl
theorem hkA10_shape : hookShape hkA10 = true := by kernel_rfl
theorem hkA10_ok : HookOK Tryz.prog (hookCall hkA10) := hook_ok (evCallH_ok envOK (hookAll_cons hkA1_ok (hookAll_cons hkA2_ok (hookAll_cons hkA3_ok (hookAll_cons hkA4_ok (hookAll_cons hkA5_ok (hookAll_cons hkA6_ok (hookAll_cons hkA7_ok (hookAll_cons hkA8_ok (hookAll_cons hkA9_ok hookAll_nil))))))))) 300) hkA10_shape hkA10_run
end Go.Proofs.YthnjebcablpneaaGreatDoor
