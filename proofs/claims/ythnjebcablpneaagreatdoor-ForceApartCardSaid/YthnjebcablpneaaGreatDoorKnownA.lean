/- The chapter's example (baizelaw33.known), as the kernel reckons it: it is true. -/
import Derived.Test.YthnjebcablpneaaGreatDoorHkA10
import Derived.Test.YthnjebcablpneaaGreatDoorEvU
import Derived.Test.YthnjebcablpneaaGreatDoorRows
set_option maxRecDepth 100000
namespace Go.Proofs.YthnjebcablpneaaGreatDoor
open Go.Ev
open Go.RowKit (Below)
theorem hooksA : HookOK Tryz.prog (hookAll [hkA1, hkA2, hkA3, hkA4, hkA5, hkA6, hkA7, hkA8, hkA9, hkA10]) := hookAll_cons hkA1_ok (hookAll_cons hkA2_ok (hookAll_cons hkA3_ok (hookAll_cons hkA4_ok (hookAll_cons hkA5_ok (hookAll_cons hkA6_ok (hookAll_cons hkA7_ok (hookAll_cons hkA8_ok (hookAll_cons hkA9_ok (hookAll_cons hkA10_ok hookAll_nil)))))))))
theorem known33_run : resIs (.bool true) (evCallH Tryz.prog E0 (hookAll [hkA1, hkA2, hkA3, hkA4, hkA5, hkA6, hkA7, hkA8, hkA9, hkA10]) 300 13 [] ⟨putAll G0 .e, 12⟩) = true := by kernel_rfl
theorem known33 {w : World} (hw : LaidIn G0 w) : Calls Tryz.prog 13 #[] w fun e w' => e = .returned (.bool true) ∧ Below w.heap.size w w' :=
  plain_calls envOK hooksA (fn := Tryz.f13) (n := 300) (by kernel_rfl) rfl (by kernel_rfl) (by kernel_rfl) (by kernel_rfl) rfl rfl known33_run hw
end Go.Proofs.YthnjebcablpneaaGreatDoor
