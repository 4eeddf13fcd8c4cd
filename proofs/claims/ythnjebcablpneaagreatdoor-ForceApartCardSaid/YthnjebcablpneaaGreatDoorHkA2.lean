/- What a call comes to, as the kernel reckons it. -/
import Derived.Test.YthnjebcablpneaaGreatDoorHkA1
import Derived.Test.YthnjebcablpneaaGreatDoorEnv
set_option maxRecDepth 100000
namespace Go.Proofs.YthnjebcablpneaaGreatDoor
open Go.Ev
def hkA2 : Hook := { f := 63, args := [mkStr [103, 97, 109, 101, 32, 103, 32, 115, 101, 97, 116, 115, 32, 50, 32, 115, 116, 97, 107, 101, 32, 49, 32, 49, 32, 115, 116, 97, 114, 116, 32, 101, 110, 100, 32, 116, 117, 114, 110, 32, 115, 101, 97, 116, 32, 48, 32, 101, 110, 100, 32, 112, 108, 97, 121, 32, 101, 110, 100, 32, 115, 105, 108, 101, 110, 116, 32, 119, 104, 111, 32, 101, 110, 100, 32, 112, 97, 121, 32, 114, 101, 115, 116, 32, 48, 32, 101, 110, 100]], H := G0, base := 2000, v := .tuple #[.agg #[mkStr [103], .int .i64 (.ofNat 2), .slice (some ⟨3179, 0, none⟩) 2 2, .slice none 0 0, .slice none 0 0, .slice (some ⟨3199, 0, none⟩) 1 1, .slice none 0 0, .slice none 0 0, mkStr [119, 104, 111], .slice none 0 0, .slice (some ⟨3220, 0, none⟩) 1 1], .agg #[.int .i64 (.ofNat 0), .int .i64 (.ofNat 0)], .int .i64 (.ofNat 0)], R := [(3179, .row [.int .i64 (.ofNat 1), .int .i64 (.ofNat 1)] 3 (.grown 2)), (3199, .row [.int .i64 (.ofNat 6), mkStr [], .slice (some ⟨3197, 0, none⟩) 1 1, .int .i64 (.ofNat 0), .int .i64 (.ofNat 0), .slice none 0 0, .slice none 0 0] 247 (.grown 1)), (3197, .row [.int .i64 (.ofNat 0), .int .i64 (.ofNat 0), mkStr [], .slice none 0 0] 291 .own), (3220, .row [.int .i64 (.ofNat 9), mkStr [], .slice (some ⟨3218, 0, none⟩) 1 1, .int .i64 (.ofNat 0), .int .i64 (.ofNat 0), .slice none 0 0, .slice none 0 0] 247 (.grown 1)), (3218, .row [.int .i64 (.ofNat 0), .int .i64 (.ofNat 0), mkStr [], .slice none 0 0] 291 .own)], next := 3222 }
theorem hkA2_run : hookRes hkA2 (evCallH Tryz.prog E0 (hookAll [hkA1]) 300 hkA2.f hkA2.args ⟨putAll hkA2.H .e, hkA2.base⟩) = true := by kernel_rfl
theorem hkA2_shape : hookShape hkA2 = true := by kernel_rfl
theorem hkA2_ok : HookOK Tryz.prog (hookCall hkA2) := hook_ok (evCallH_ok envOK (hookAll_cons hkA1_ok hookAll_nil) 300) hkA2_shape hkA2_run
end Go.Proofs.YthnjebcablpneaaGreatDoor
