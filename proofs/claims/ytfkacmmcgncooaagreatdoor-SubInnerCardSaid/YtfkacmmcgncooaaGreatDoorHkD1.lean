/- What calls come to, as the kernel reckons it. -/
import Derived.Test.YtfkacmmcgncooaaGreatDoorHkK1
set_option maxRecDepth 100000
namespace Go.Proofs.YtfkacmmcgncooaaGreatDoor
open Go.Ev
def txD3 : List UInt8 := [103,97,109,101,32,100,97,114,101,32,115,101,97,116,115,32,50,32,115,116,97,107,101,32,49,32,49,32,118,97,114,32,100,32,48,32,54,32,118,97,114,32,100,111,110,101,32,48,32,49,32,115,116,97,114,116,32,100,32,61,32,48,32,101,110,100,32,116,117,114,110,32,105,102,32,100,111,110,101,32,116,104,101,110,32,111,118,101,114,32,101,108,115,101,32,115,101,97,116,32,48,32,101,110,100,32,101,110,100,32,112,108,97,121,32,103,32,48,32,49,32,105,102,32,103,32,116,104,101,110,32,114,111,108,108,32,100,32,54,32,101,110,100,32,100,111,110,101,32,61,32,103,32,101,110,100,32,115,105,108,101,110,116,32,119,32,100,111,110,101,32,61,32,49,32,101,110,100,32,112,97,121,32,112,97,121,32,48,32,100,32,114,101,115,116,32,49,32,101,110,100]
def oD73 : Nat × AO := (431, .row [iv 3, mkStr [103,97,109,101], iv 0, iv 1, iv 1, iv 1, mkStr [100,97,114,101], iv 0, iv 1, iv 6, iv 3, mkStr [115,101,97,116,115], iv 0, iv 1, iv 11, iv 2, mkStr [50], iv 2, iv 1, iv 17, iv 3, mkStr [115,116,97,107,101], iv 0, iv 1, iv 19, iv 2, mkStr [49], iv 1, iv 1, iv 25, iv 2, mkStr [49], iv 1, iv 1, iv 27, iv 3, mkStr [118,97,114], iv 0, iv 1, iv 29, iv 1, mkStr [100], iv 0, iv 1, iv 33, iv 2, mkStr [48], iv 0, iv 1, iv 35, iv 2, mkStr [54], iv 6, iv 1, iv 37, iv 3, mkStr [118,97,114], iv 0, iv 1, iv 39, iv 1, mkStr [100,111,110,101], iv 0, iv 1, iv 43, iv 2, mkStr [48], iv 0, iv 1, iv 48, iv 2, mkStr [49], iv 1, iv 1, iv 50, iv 3, mkStr [115,116,97,114,116], iv 0, iv 1, iv 52, iv 1, mkStr [100], iv 0, iv 1, iv 58, iv 4, mkStr [61], iv 0, iv 1, iv 60, iv 2, mkStr [48], iv 0, iv 1, iv 62, iv 3, mkStr [101,110,100], iv 0, iv 1, iv 64, iv 3, mkStr [116,117,114,110], iv 0, iv 1, iv 68, iv 3, mkStr [105,102], iv 0, iv 1, iv 73, iv 1, mkStr [100,111,110,101], iv 0, iv 1, iv 76, iv 3, mkStr [116,104,101,110], iv 0, iv 1, iv 81, iv 3, mkStr [111,118,101,114], iv 0, iv 1, iv 86, iv 3, mkStr [101,108,115,101], iv 0, iv 1, iv 91, iv 3, mkStr [115,101,97,116], iv 0, iv 1, iv 96, iv 2, mkStr [48], iv 0, iv 1, iv 101, iv 3, mkStr [101,110,100], iv 0, iv 1, iv 103, iv 3, mkStr [101,110,100], iv 0, iv 1, iv 107, iv 3, mkStr [112,108,97,121], iv 0, iv 1, iv 111, iv 1, mkStr [103], iv 0, iv 1, iv 116, iv 2, mkStr [48], iv 0, iv 1, iv 118, iv 2, mkStr [49], iv 1, iv 1, iv 120, iv 3, mkStr [105,102], iv 0, iv 1, iv 122, iv 1, mkStr [103], iv 0, iv 1, iv 125, iv 3, mkStr [116,104,101,110], iv 0, iv 1, iv 127, iv 3, mkStr [114,111,108,108], iv 0, iv 1, iv 132, iv 1, mkStr [100], iv 0, iv 1, iv 137, iv 2, mkStr [54], iv 6, iv 1, iv 139, iv 3, mkStr [101,110,100], iv 0, iv 1, iv 141, iv 1, mkStr [100,111,110,101], iv 0, iv 1, iv 145, iv 4, mkStr [61], iv 0, iv 1, iv 150, iv 1, mkStr [103], iv 0, iv 1, iv 152, iv 3, mkStr [101,110,100], iv 0, iv 1, iv 154, iv 3, mkStr [115,105,108,101,110,116], iv 0, iv 1, iv 158, iv 1, mkStr [119], iv 0, iv 1, iv 165, iv 1, mkStr [100,111,110,101], iv 0, iv 1, iv 167, iv 4, mkStr [61], iv 0, iv 1, iv 172, iv 2, mkStr [49], iv 1, iv 1, iv 174, iv 3, mkStr [101,110,100], iv 0, iv 1, iv 176, iv 3, mkStr [112,97,121], iv 0, iv 1, iv 180, iv 3, mkStr [112,97,121], iv 0, iv 1, iv 184, iv 2, mkStr [48], iv 0, iv 1, iv 188, iv 1, mkStr [100], iv 0, iv 1, iv 190, iv 3, mkStr [114,101,115,116], iv 0, iv 1, iv 192, iv 2, mkStr [49], iv 1, iv 1, iv 197, iv 3, mkStr [101,110,100], iv 0, iv 1, iv 199, iv 0, mkStr [], iv 0, iv 1, iv 202] 187 (.grown 59))
set_option linter.unusedSectionVars false
variable [Go.Ev.Frozen Tryz.prog]
def hkD1 : Hook := { f := 101, args := [mkStr txD3], H := G0, base := 18, v := .tuple #[sv 431 59 59, .agg #[iv 0, iv 0], iv 0], R := [oD73], next := 432 }
theorem hkD1_run : hookRes hkD1 (evCallH Tryz.prog E0 (allC [relocCall hkK3]) 300 hkD1.f hkD1.args ⟨putAll hkD1.H .e, hkD1.base⟩) = true := by kernel_rfl
theorem hkD1_ok : HookOK Tryz.prog (relocCall hkD1) := reloc_ok (evCallH_ok envOK (allC_cons hkK3_ok allC_nil) 300) (ng := 12) (by kernel_rfl) (by kernel_rfl) (by kernel_rfl) (by kernel_rfl) (by kernel_rfl) (by kernel_rfl) hkD1_run
def oD74 : Nat × AO := (449, .row [iv 1, iv 1] 3 (.grown 2))
def oD75 : Nat × AO := (463, .row [mkStr [100], iv 0, iv 0, iv 6, mkStr [100,111,110,101], iv 0, iv 0, iv 1] 154 (.grown 2))
def oD76 : Nat × AO := (486, .row [iv 0, mkStr [100], sv 484 1 1, iv 0, iv 0, .slice none 0 0, .slice none 0 0] 237 (.grown 1))
def oD77 : Nat × AO := (484, .row [iv 0, iv 0, mkStr [], .slice none 0 0] 287 (.grown 1))
def oD78 : Nat × AO := (532, .row [iv 2, mkStr [], sv 505 1 1, iv 0, iv 0, sv 510 1 1, sv 530 1 1] 237 (.grown 1))
def oD79 : Nat × AO := (505, .row [iv 1, iv 0, mkStr [100,111,110,101], .slice none 0 0] 287 .own)
def oD80 : Nat × AO := (510, .row [iv 7, mkStr [], .slice none 0 0, iv 0, iv 0, .slice none 0 0, .slice none 0 0] 237 (.grown 1))
def oD81 : Nat × AO := (530, .row [iv 6, mkStr [], sv 528 1 1, iv 0, iv 0, .slice none 0 0, .slice none 0 0] 237 (.grown 1))
def oD82 : Nat × AO := (528, .row [iv 0, iv 0, mkStr [], .slice none 0 0] 287 .own)
def oD83 : Nat × AO := (539, .row [mkStr [103], iv 0, iv 0, iv 1] 154 .own)
def oD84 : Nat × AO := (591, .row [iv 2, mkStr [], sv 558 1 1, iv 0, iv 0, sv 566 1 1, .slice none 0 0, iv 0, mkStr [100,111,110,101], sv 589 1 1, iv 0, iv 0, .slice none 0 0, .slice none 0 0] 237 (.grown 2))
def oD85 : Nat × AO := (558, .row [iv 1, iv 0, mkStr [103], .slice none 0 0] 287 .own)
def oD86 : Nat × AO := (566, .row [iv 5, mkStr [100], .slice none 0 0, iv 6, iv 0, .slice none 0 0, .slice none 0 0] 237 (.grown 1))
def oD87 : Nat × AO := (589, .row [iv 1, iv 0, mkStr [103], .slice none 0 0] 287 (.grown 1))
def oD88 : Nat × AO := (615, .row [iv 0, mkStr [100,111,110,101], sv 613 1 1, iv 0, iv 0, .slice none 0 0, .slice none 0 0] 237 (.grown 1))
def oD89 : Nat × AO := (613, .row [iv 0, iv 1, mkStr [], .slice none 0 0] 287 (.grown 1))
def oD90 : Nat × AO := (671, .row [iv 8, mkStr [], sv 649 2 2, iv 0, iv 0, .slice none 0 0, .slice none 0 0, iv 9, mkStr [], sv 669 1 1, iv 0, iv 0, .slice none 0 0, .slice none 0 0] 237 (.grown 2))
def oD91 : Nat × AO := (649, .row [iv 0, iv 0, mkStr [], .slice none 0 0, iv 1, iv 0, mkStr [100], .slice none 0 0] 287 .own)
def oD92 : Nat × AO := (669, .row [iv 0, iv 1, mkStr [], .slice none 0 0] 287 .own)
def sqD8 : List (Nat × AO) := [oD74, oD75, oD76, oD77, oD78, oD79, oD80, oD81, oD82, oD83, oD84, oD85, oD86, oD87, oD88, oD89, oD90, oD91, oD92]
def hkD2 : Hook := { f := 65, args := [mkStr txD3], H := G0, base := 14, v := .tuple #[.agg #[mkStr [100,97,114,101], iv 2, sv 449 2 2, sv 463 2 2, sv 486 1 1, sv 532 1 1, sv 539 1 1, sv 591 2 2, mkStr [119], sv 615 1 1, sv 671 2 2], .agg #[iv 0, iv 0], iv 0], R := sqD8, next := 673 }
theorem hkD2_run : hookRes hkD2 (evCallH Tryz.prog E0 (allC [relocCall hkD1]) 300 hkD2.f hkD2.args ⟨putAll hkD2.H .e, hkD2.base⟩) = true := by kernel_rfl
theorem hkD2_ok : HookOK Tryz.prog (relocCall hkD2) := reloc_ok (evCallH_ok envOK (allC_cons hkD1_ok allC_nil) 300) (ng := 12) (by kernel_rfl) (by kernel_rfl) (by kernel_rfl) (by kernel_rfl) (by kernel_rfl) (by kernel_rfl) hkD2_run
def hkD3 : Hook := { f := 156, args := [mkStr [100,97,114,101]], H := G0, base := 1007, v := .bool true, R := [], next := 1013 }
theorem hkD3_run : hookRes hkD3 (evCallH Tryz.prog E0 (allC [relocCall hkK3]) 300 hkD3.f hkD3.args ⟨putAll hkD3.H .e, hkD3.base⟩) = true := by kernel_rfl
theorem hkD3_ok : HookOK Tryz.prog (relocCall hkD3) := reloc_ok (evCallH_ok envOK (allC_cons hkK3_ok allC_nil) 300) (ng := 12) (by kernel_rfl) (by kernel_rfl) (by kernel_rfl) (by kernel_rfl) (by kernel_rfl) (by kernel_rfl) hkD3_run
def hkD4 : Hook := { f := 156, args := [mkStr [100]], H := G0, base := 1015, v := .bool true, R := [], next := 1021 }
theorem hkD4_run : hookRes hkD4 (evCallH Tryz.prog E0 (allC [relocCall hkK3]) 300 hkD4.f hkD4.args ⟨putAll hkD4.H .e, hkD4.base⟩) = true := by kernel_rfl
theorem hkD4_ok : HookOK Tryz.prog (relocCall hkD4) := reloc_ok (evCallH_ok envOK (allC_cons hkK3_ok allC_nil) 300) (ng := 12) (by kernel_rfl) (by kernel_rfl) (by kernel_rfl) (by kernel_rfl) (by kernel_rfl) (by kernel_rfl) hkD4_run
def hkD5 : Hook := { f := 156, args := [mkStr [100,111,110,101]], H := G0, base := 1023, v := .bool true, R := [], next := 1029 }
theorem hkD5_run : hookRes hkD5 (evCallH Tryz.prog E0 (allC [relocCall hkK3]) 300 hkD5.f hkD5.args ⟨putAll hkD5.H .e, hkD5.base⟩) = true := by kernel_rfl
theorem hkD5_ok : HookOK Tryz.prog (relocCall hkD5) := reloc_ok (evCallH_ok envOK (allC_cons hkK3_ok allC_nil) 300) (ng := 12) (by kernel_rfl) (by kernel_rfl) (by kernel_rfl) (by kernel_rfl) (by kernel_rfl) (by kernel_rfl) hkD5_run
def hkD6 : Hook := { f := 156, args := [mkStr [103]], H := G0, base := 1038, v := .bool true, R := [], next := 1044 }
theorem hkD6_run : hookRes hkD6 (evCallH Tryz.prog E0 (allC [relocCall hkK3]) 300 hkD6.f hkD6.args ⟨putAll hkD6.H .e, hkD6.base⟩) = true := by kernel_rfl
theorem hkD6_ok : HookOK Tryz.prog (relocCall hkD6) := reloc_ok (evCallH_ok envOK (allC_cons hkK3_ok allC_nil) 300) (ng := 12) (by kernel_rfl) (by kernel_rfl) (by kernel_rfl) (by kernel_rfl) (by kernel_rfl) (by kernel_rfl) hkD6_run
def txD4 : List UInt8 := [103,97,109,101,32,100,97,114,101,10,115,101,97,116,115,32,50,10,115,116,97,107,101,32,49,32,49,10,118,97,114,32,100,32,48,32,54,10,118,97,114,32,100,111,110,101,32,48,32,49,10,115,116,97,114,116,10,32,32,100,32,61,32,48,10,101,110,100,10,116,117,114,110,10,32,32,105,102,32,100,111,110,101,32,116,104,101,110,10,32,32,32,32,111,118,101,114,10,32,32,101,108,115,101,10,32,32,32,32,115,101,97,116,32,48,10,32,32,101,110,100,10,101,110,100,10,112,108,97,121,32,103,32,48,32,49,10,32,32,105,102,32,103,32,116,104,101,110,10,32,32,32,32,114,111,108,108,32,100,32,54,10,32,32,101,110,100,10,32,32,100,111,110,101,32,61,32,103,10,101,110,100,10,115,105,108,101,110,116,32,119,10,32,32,100,111,110,101,32,61,32,49,10,101,110,100,10,112,97,121,10,32,32,112,97,121,32,48,32,100,10,32,32,114,101,115,116,32,49,10,101,110,100,10]
def oD93 : Nat × AO := (2339, .row [iv 3, mkStr [103,97,109,101], iv 0, iv 1, iv 1, iv 1, mkStr [100,97,114,101], iv 0, iv 1, iv 6, iv 3, mkStr [115,101,97,116,115], iv 0, iv 2, iv 1, iv 2, mkStr [50], iv 2, iv 2, iv 7, iv 3, mkStr [115,116,97,107,101], iv 0, iv 3, iv 1, iv 2, mkStr [49], iv 1, iv 3, iv 7, iv 2, mkStr [49], iv 1, iv 3, iv 9, iv 3, mkStr [118,97,114], iv 0, iv 4, iv 1, iv 1, mkStr [100], iv 0, iv 4, iv 5, iv 2, mkStr [48], iv 0, iv 4, iv 7, iv 2, mkStr [54], iv 6, iv 4, iv 9, iv 3, mkStr [118,97,114], iv 0, iv 5, iv 1, iv 1, mkStr [100,111,110,101], iv 0, iv 5, iv 5, iv 2, mkStr [48], iv 0, iv 5, iv 10, iv 2, mkStr [49], iv 1, iv 5, iv 12, iv 3, mkStr [115,116,97,114,116], iv 0, iv 6, iv 1, iv 1, mkStr [100], iv 0, iv 7, iv 3, iv 4, mkStr [61], iv 0, iv 7, iv 5, iv 2, mkStr [48], iv 0, iv 7, iv 7, iv 3, mkStr [101,110,100], iv 0, iv 8, iv 1, iv 3, mkStr [116,117,114,110], iv 0, iv 9, iv 1, iv 3, mkStr [105,102], iv 0, iv 10, iv 3, iv 1, mkStr [100,111,110,101], iv 0, iv 10, iv 6, iv 3, mkStr [116,104,101,110], iv 0, iv 10, iv 11, iv 3, mkStr [111,118,101,114], iv 0, iv 11, iv 5, iv 3, mkStr [101,108,115,101], iv 0, iv 12, iv 3, iv 3, mkStr [115,101,97,116], iv 0, iv 13, iv 5, iv 2, mkStr [48], iv 0, iv 13, iv 10, iv 3, mkStr [101,110,100], iv 0, iv 14, iv 3, iv 3, mkStr [101,110,100], iv 0, iv 15, iv 1, iv 3, mkStr [112,108,97,121], iv 0, iv 16, iv 1, iv 1, mkStr [103], iv 0, iv 16, iv 6, iv 2, mkStr [48], iv 0, iv 16, iv 8, iv 2, mkStr [49], iv 1, iv 16, iv 10, iv 3, mkStr [105,102], iv 0, iv 17, iv 3, iv 1, mkStr [103], iv 0, iv 17, iv 6, iv 3, mkStr [116,104,101,110], iv 0, iv 17, iv 8, iv 3, mkStr [114,111,108,108], iv 0, iv 18, iv 5, iv 1, mkStr [100], iv 0, iv 18, iv 10, iv 2, mkStr [54], iv 6, iv 18, iv 12, iv 3, mkStr [101,110,100], iv 0, iv 19, iv 3, iv 1, mkStr [100,111,110,101], iv 0, iv 20, iv 3, iv 4, mkStr [61], iv 0, iv 20, iv 8, iv 1, mkStr [103], iv 0, iv 20, iv 10, iv 3, mkStr [101,110,100], iv 0, iv 21, iv 1, iv 3, mkStr [115,105,108,101,110,116], iv 0, iv 22, iv 1, iv 1, mkStr [119], iv 0, iv 22, iv 8, iv 1, mkStr [100,111,110,101], iv 0, iv 23, iv 3, iv 4, mkStr [61], iv 0, iv 23, iv 8, iv 2, mkStr [49], iv 1, iv 23, iv 10, iv 3, mkStr [101,110,100], iv 0, iv 24, iv 1, iv 3, mkStr [112,97,121], iv 0, iv 25, iv 1, iv 3, mkStr [112,97,121], iv 0, iv 26, iv 3, iv 2, mkStr [48], iv 0, iv 26, iv 7, iv 1, mkStr [100], iv 0, iv 26, iv 9, iv 3, mkStr [114,101,115,116], iv 0, iv 27, iv 3, iv 2, mkStr [49], iv 1, iv 27, iv 8, iv 3, mkStr [101,110,100], iv 0, iv 28, iv 1, iv 0, mkStr [], iv 0, iv 29, iv 1] 187 (.grown 59))
def hkD7 : Hook := { f := 101, args := [mkStr txD4], H := G0, base := 1893, v := .tuple #[sv 2339 59 59, .agg #[iv 0, iv 0], iv 0], R := [oD93], next := 2340 }
theorem hkD7_run : hookRes hkD7 (evCallH Tryz.prog E0 (allC [relocCall hkK3]) 300 hkD7.f hkD7.args ⟨putAll hkD7.H .e, hkD7.base⟩) = true := by kernel_rfl
theorem hkD7_ok : HookOK Tryz.prog (relocCall hkD7) := reloc_ok (evCallH_ok envOK (allC_cons hkK3_ok allC_nil) 300) (ng := 12) (by kernel_rfl) (by kernel_rfl) (by kernel_rfl) (by kernel_rfl) (by kernel_rfl) (by kernel_rfl) hkD7_run
def oD94 : Nat × AO := (2357, .row [iv 1, iv 1] 3 (.grown 2))
def oD95 : Nat × AO := (2371, .row [mkStr [100], iv 0, iv 0, iv 6, mkStr [100,111,110,101], iv 0, iv 0, iv 1] 154 (.grown 2))
def oD96 : Nat × AO := (2394, .row [iv 0, mkStr [100], sv 2392 1 1, iv 0, iv 0, .slice none 0 0, .slice none 0 0] 237 (.grown 1))
def oD97 : Nat × AO := (2392, .row [iv 0, iv 0, mkStr [], .slice none 0 0] 287 (.grown 1))
def oD98 : Nat × AO := (2440, .row [iv 2, mkStr [], sv 2413 1 1, iv 0, iv 0, sv 2418 1 1, sv 2438 1 1] 237 (.grown 1))
def oD99 : Nat × AO := (2413, .row [iv 1, iv 0, mkStr [100,111,110,101], .slice none 0 0] 287 .own)
def oD100 : Nat × AO := (2418, .row [iv 7, mkStr [], .slice none 0 0, iv 0, iv 0, .slice none 0 0, .slice none 0 0] 237 (.grown 1))
def oD101 : Nat × AO := (2438, .row [iv 6, mkStr [], sv 2436 1 1, iv 0, iv 0, .slice none 0 0, .slice none 0 0] 237 (.grown 1))
def oD102 : Nat × AO := (2436, .row [iv 0, iv 0, mkStr [], .slice none 0 0] 287 .own)
def oD103 : Nat × AO := (2447, .row [mkStr [103], iv 0, iv 0, iv 1] 154 .own)
def oD104 : Nat × AO := (2499, .row [iv 2, mkStr [], sv 2466 1 1, iv 0, iv 0, sv 2474 1 1, .slice none 0 0, iv 0, mkStr [100,111,110,101], sv 2497 1 1, iv 0, iv 0, .slice none 0 0, .slice none 0 0] 237 (.grown 2))
def oD105 : Nat × AO := (2466, .row [iv 1, iv 0, mkStr [103], .slice none 0 0] 287 .own)
def oD106 : Nat × AO := (2474, .row [iv 5, mkStr [100], .slice none 0 0, iv 6, iv 0, .slice none 0 0, .slice none 0 0] 237 (.grown 1))
def oD107 : Nat × AO := (2497, .row [iv 1, iv 0, mkStr [103], .slice none 0 0] 287 (.grown 1))
def oD108 : Nat × AO := (2523, .row [iv 0, mkStr [100,111,110,101], sv 2521 1 1, iv 0, iv 0, .slice none 0 0, .slice none 0 0] 237 (.grown 1))
def oD109 : Nat × AO := (2521, .row [iv 0, iv 1, mkStr [], .slice none 0 0] 287 (.grown 1))
def oD110 : Nat × AO := (2579, .row [iv 8, mkStr [], sv 2557 2 2, iv 0, iv 0, .slice none 0 0, .slice none 0 0, iv 9, mkStr [], sv 2577 1 1, iv 0, iv 0, .slice none 0 0, .slice none 0 0] 237 (.grown 2))
def oD111 : Nat × AO := (2557, .row [iv 0, iv 0, mkStr [], .slice none 0 0, iv 1, iv 0, mkStr [100], .slice none 0 0] 287 .own)
def oD112 : Nat × AO := (2577, .row [iv 0, iv 1, mkStr [], .slice none 0 0] 287 .own)
def sqD9 : List (Nat × AO) := [oD94, oD95, oD96, oD97, oD98, oD99, oD100, oD101, oD102, oD103, oD104, oD105, oD106, oD107, oD108, oD109, oD110, oD111, oD112]
def hkD8 : Hook := { f := 65, args := [mkStr txD4], H := G0, base := 1889, v := .tuple #[.agg #[mkStr [100,97,114,101], iv 2, sv 2357 2 2, sv 2371 2 2, sv 2394 1 1, sv 2440 1 1, sv 2447 1 1, sv 2499 2 2, mkStr [119], sv 2523 1 1, sv 2579 2 2], .agg #[iv 0, iv 0], iv 0], R := sqD9, next := 2581 }
theorem hkD8_run : hookRes hkD8 (evCallH Tryz.prog E0 (allC [relocCall hkD7]) 300 hkD8.f hkD8.args ⟨putAll hkD8.H .e, hkD8.base⟩) = true := by kernel_rfl
theorem hkD8_ok : HookOK Tryz.prog (relocCall hkD8) := reloc_ok (evCallH_ok envOK (allC_cons hkD7_ok allC_nil) 300) (ng := 12) (by kernel_rfl) (by kernel_rfl) (by kernel_rfl) (by kernel_rfl) (by kernel_rfl) (by kernel_rfl) hkD8_run
def oD113 : Nat × AO := (2663, .row [mkStr [100,97,114,101], sv 2662 2 2, bv 218, bv 47, bv 45, bv 74, bv 149, bv 253, bv 130, bv 124, pv 1318, sv 2717 1 1, sv 2727 2 2] 120 .own)
def oD114 : Nat × AO := (2662, .row [iv 1, iv 1] 3 (.grown 2))
def oD115 : Nat × AO := (1318, .row [iv 2, iv 2, sv 1324 2 2, sv 1317 1 1, sv 1355 4 4, sv 1398 9 9, sv 1446 8 8, sv 1479 4 4, sv 1532 14 14, iv 12, iv 16, iv 20, iv 12, iv 22] 166 .own)
def oD116 : Nat × AO := (1324, .row [wv32 0, wv32 0] 21 (.grown 2))
def oD117 : Nat × AO := (1317, .row [mkStr [103], iv 0, iv 0, iv 1] 154 (.grown 1))
def oD118 : Nat × AO := (1355, .row (ivs [1,35,0,0,17,35,0,6,2,0,35,0,0,0,0,0]) 278 (.grown 4))
def oD119 : Nat × AO := (1398, .row [iv 2, iv 35, iv 1, iv 0, iv 20, iv 5, iv 35, iv 0, iv 1, iv 6, nv 0, iv 0, iv 0, iv 0, iv 0, iv 0, iv 19, iv 8, iv 0, iv 0, iv 1, iv 35, iv 0, iv 0, iv 2, iv 6, iv 35, iv 0, iv 0, iv 0, iv 0, iv 0, iv 0, iv 0, iv 0, iv 0] 278 (.grown 9))
def oD120 : Nat × AO := (1446, .row (ivs [2,35,2,0,20,4,35,0,1,7,0,0,1,8,6,0,2,35,2,0,17,35,0,1,2,1,35,0,0,0,0,0]) 278 (.grown 8))
def oD121 : Nat × AO := (1479, .row (ivs [1,35,1,0,17,35,0,1,2,1,35,0,0,0,0,0]) 278 (.grown 4))
def oD122 : Nat × AO := (1532, .row (ivs [2,35,0,0,1,36,0,0,18,37,36,2,5,36,36,37,17,35,0,1073741823,15,37,10,36,3,35,35,37,17,35,0,1073741823,16,10,36,35,1,35,1,0,18,36,35,2,5,35,35,36,2,9,35,0,0,0,0,0]) 278 (.grown 14))
def oD123 : Nat × AO := (2717, .row [wv32 0, wv32 1] 131 (.grown 1))
def oD124 : Nat × AO := (2727, .row (wvs [0,6,0,1]) 131 (.grown 2))
def sqD10 : List (Nat × AO) := [oD113, oD114, oD115, oD116, oD117, oD118, oD119, oD120, oD121, oD122, oD123, oD124, oD74, oD75, oD76, oD77, oD78, oD79, oD80, oD81, oD82, oD83, oD84, oD85, oD86, oD87, oD88, oD89, oD90, oD91, oD92]
def hkD9 : Hook := { f := 66, args := [.agg #[mkStr [100,97,114,101], iv 2, sv 449 2 2, sv 463 2 2, sv 486 1 1, sv 532 1 1, sv 539 1 1, sv 591 2 2, mkStr [119], sv 615 1 1, sv 671 2 2]], H := G0 ++ sqD8, base := 1000, v := .tuple #[pv 2663, iv 0], R := sqD10, next := 2728 }
theorem hkD9_run : hookRes hkD9 (evCallH Tryz.prog E0 (allC [relocCall hkD3, relocCall hkD4, relocCall hkD5, relocCall hkD6, relocCall hkK10, relocCall hkD8]) 300 hkD9.f hkD9.args ⟨putAll hkD9.H .e, hkD9.base⟩) = true := by kernel_rfl
theorem hkD9_shape : hookShape hkD9 = true := by kernel_rfl
theorem hkD9_ok : HookOK Tryz.prog (hookCall hkD9) := hook_ok (evCallH_ok envOK (allC_cons hkD3_ok (allC_cons hkD4_ok (allC_cons hkD5_ok (allC_cons hkD6_ok (allC_cons hkK10_ok (allC_cons hkD8_ok allC_nil)))))) 300) hkD9_shape hkD9_run
def sqD11 : List (Nat × AO) := [oD113, oD114, oD115, oD116, oD117, oD118, oD119, oD120, oD121, oD122, oD123, oD124]
def hkD10 : Hook := { f := 24, args := [mkStr txD3], H := G0, base := 14, v := .tuple #[pv 2663, iv 0], R := sqD11, next := 2728 }
theorem hkD10_run : hookRes hkD10 (evCallH Tryz.prog E0 (allC [relocCall hkD2, hookCall hkD9]) 300 hkD10.f hkD10.args ⟨putAll hkD10.H .e, hkD10.base⟩) = true := by kernel_rfl
theorem hkD10_ok : HookOK Tryz.prog (relocCall hkD10) := reloc_ok (evCallH_ok envOK (allC_cons hkD2_ok (allC_cons hkD9_ok allC_nil)) 300) (ng := 12) (by kernel_rfl) (by kernel_rfl) (by kernel_rfl) (by kernel_rfl) (by kernel_rfl) (by kernel_rfl) hkD10_run
def oD125 : Nat × AO := (2737, .row (bvs [84,20,162,125,185,95,193,130,195,192,90,36,52,89,115,35]) 47 .own)
def sqD12 : List (Nat × AO) := [oD113, oD114, oD115, oD116, oD117, oD118, oD119, oD120, oD121, oD122, oD123, oD124, oD125]
def oD126 : Nat × AO := (3048, .row [wv32 0, wv32 0] 21 (.grown 2))
def oD127 : Nat × AO := (3050, .row [.bool false, .bool false] 4 .own)
def oD128 : Nat × AO := (3052, .row (bvs [84,20,162,125,185,95,193,130,195,192,90,36,52,89,115,35]) 47 (.grown 2))
def sqD13 : List (Nat × AO) := [oD126, oD127, oD128, oD113, oD114, oD115, oD116, oD117, oD118, oD119, oD120, oD121, oD122, oD123, oD124, oD125]
def hkD11 : Hook := { f := 27, args := [pv 2663, sv 2737 2 2], H := G0 ++ sqD12, base := 3000, v := .tuple #[.agg #[sv 3048 2 2, sv 3050 2 2, sv 3052 2 2, iv 0, iv 0, iv 0, iv 0, .int .u64 (.ofNat 0)], iv 0], R := sqD13, next := 3053 }
theorem hkD11_run : hookRes hkD11 (evCallH Tryz.prog E0 (allC []) 300 hkD11.f hkD11.args ⟨putAll hkD11.H .e, hkD11.base⟩) = true := by kernel_rfl
theorem hkD11_shape : hookShape hkD11 = true := by kernel_rfl
theorem hkD11_ok : HookOK Tryz.prog (hookCall hkD11) := hook_ok (evCallH_ok envOK (allC_nil) 300) hkD11_shape hkD11_run
end Go.Proofs.YtfkacmmcgncooaaGreatDoor
