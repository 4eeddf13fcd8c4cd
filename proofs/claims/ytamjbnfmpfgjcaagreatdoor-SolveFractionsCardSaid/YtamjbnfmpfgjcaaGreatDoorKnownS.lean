/- The chapter's example (baizelaw20.told), as the kernel reckons it: it is true. -/
import Derived.Test.YtamjbnfmpfgjcaaGreatDoorHkS9
import Derived.Test.YtamjbnfmpfgjcaaGreatDoorEvW
import Derived.Test.YtamjbnfmpfgjcaaGreatDoorRows
set_option maxRecDepth 100000
namespace Go.Proofs.YtamjbnfmpfgjcaaGreatDoor
open Go.Ev
open Go.RowKit (Below)
theorem hooksS : HookOK Tryz.prog (hookAll [hkS1, hkS2, hkS3, hkS4, hkS5, hkS6, hkS7, hkS8, hkS9, hkS10, hkS11, hkS12, hkS13, hkS14, hkS15, hkS16, hkS17, hkS18]) := hookAll_cons hkS1_ok (hookAll_cons hkS2_ok (hookAll_cons hkS3_ok (hookAll_cons hkS4_ok (hookAll_cons hkS5_ok (hookAll_cons hkS6_ok (hookAll_cons hkS7_ok (hookAll_cons hkS8_ok (hookAll_cons hkS9_ok (hookAll_cons hkS10_ok (hookAll_cons hkS11_ok (hookAll_cons hkS12_ok (hookAll_cons hkS13_ok (hookAll_cons hkS14_ok (hookAll_cons hkS15_ok (hookAll_cons hkS16_ok (hookAll_cons hkS17_ok (hookAll_cons hkS18_ok hookAll_nil)))))))))))))))))
theorem told20_run : resIs (.bool true) (evCallH Tryz.prog E0 (hookAll [hkS1, hkS2, hkS3, hkS4, hkS5, hkS6, hkS7, hkS8, hkS9, hkS10, hkS11, hkS12, hkS13, hkS14, hkS15, hkS16, hkS17, hkS18]) 300 10 [] ⟨putAll G0 .e, 12⟩) = true := by kernel_rfl
theorem told20 {w : World} (hw : LaidIn G0 w) : Calls Tryz.prog 10 #[] w fun e w' => e = .returned (.bool true) ∧ Below w.heap.size w w' :=
  plain_calls envOK hooksS (fn := Tryz.f10) (n := 300) (by kernel_rfl) rfl (by kernel_rfl) (by kernel_rfl) (by kernel_rfl) rfl rfl told20_run hw
end Go.Proofs.YtamjbnfmpfgjcaaGreatDoor
