/- What calls come to, as the kernel reckons it. -/
import Derived.Test.YtfkacmmcgncooaaGreatDoorGlob
import Derived.Test.YtfkacmmcgncooaaGreatDoorEnv
import Derived.Test.YtfkacmmcgncooaaGreatDoorEv19
set_option maxRecDepth 100000
namespace Go.Proofs.YtfkacmmcgncooaaGreatDoor
open Go.Ev
abbrev iv (n : Nat) : Value := .int .i64 (.ofNat n)
abbrev nv (n : Nat) : Value := .int .i64 (.negSucc n)
abbrev wv32 (n : Nat) : Value := .int .i32 (.ofNat n)
abbrev bv (n : Nat) : Value := .int .u8 (.ofNat n)
abbrev pv (n : Nat) : Value := .pointer (some ⟨n, 0, none⟩)
abbrev sv (n l c : Nat) : Value := .slice (some ⟨n, 0, none⟩) l c
abbrev ivs (l : List Nat) : List Value := l.map iv
abbrev wvs (l : List Nat) : List Value := l.map wv32
abbrev bvs (l : List Nat) : List Value := l.map bv
set_option linter.unusedSectionVars false
variable [Go.Ev.Frozen Tryz.prog]
theorem pkK1_run : resIs (.agg #[bv 84, bv 20, bv 162, bv 125, bv 185, bv 95, bv 193, bv 130]) (evCallH Tryz.prog E0 (allC []) 300 70 [.agg #[bv 1, bv 0, bv 0, bv 0, bv 0, bv 0, bv 0, bv 0], iv 20] ⟨.e, Tryz.prog.globals.size⟩) = true := by kernel_rfl
theorem pkK1_ok : HookOK Tryz.prog (pcall 70 [.agg #[bv 1, bv 0, bv 0, bv 0, bv 0, bv 0, bv 0, bv 0], iv 20] (.agg #[bv 84, bv 20, bv 162, bv 125, bv 185, bv 95, bv 193, bv 130])) := pcall_ok (evCallH_ok envOK allC_nil 300) (by kernel_rfl) (by kernel_rfl) pkK1_run
theorem pkK2_run : resIs (.agg #[bv 195, bv 192, bv 90, bv 36, bv 52, bv 89, bv 115, bv 35]) (evCallH Tryz.prog E0 (allC []) 300 70 [.agg #[bv 2, bv 0, bv 0, bv 0, bv 0, bv 0, bv 0, bv 0], iv 20] ⟨.e, Tryz.prog.globals.size⟩) = true := by kernel_rfl
theorem pkK2_ok : HookOK Tryz.prog (pcall 70 [.agg #[bv 2, bv 0, bv 0, bv 0, bv 0, bv 0, bv 0, bv 0], iv 20] (.agg #[bv 195, bv 192, bv 90, bv 36, bv 52, bv 89, bv 115, bv 35])) := pcall_ok (evCallH_ok envOK allC_nil 300) (by kernel_rfl) (by kernel_rfl) pkK2_run
noncomputable def pgK2 : Caller → Caller := gcall 70 (allC [pcall 70 [.agg #[bv 1, bv 0, bv 0, bv 0, bv 0, bv 0, bv 0, bv 0], iv 20] (.agg #[bv 84, bv 20, bv 162, bv 125, bv 185, bv 95, bv 193, bv 130]), pcall 70 [.agg #[bv 2, bv 0, bv 0, bv 0, bv 0, bv 0, bv 0, bv 0], iv 20] (.agg #[bv 195, bv 192, bv 90, bv 36, bv 52, bv 89, bv 115, bv 35])])
theorem pgK2_ok : HookOK Tryz.prog pgK2 := gcall_ok (allC_cons pkK1_ok (allC_cons pkK2_ok allC_nil))
def oK1 : Nat × AO := (21, .map [⟨mkStr [103,97,109,101], .bool true, 0⟩, ⟨mkStr [115,101,97,116,115], .bool true, 1⟩, ⟨mkStr [115,116,97,107,101], .bool true, 2⟩, ⟨mkStr [118,97,114], .bool true, 3⟩, ⟨mkStr [115,116,97,114,116], .bool true, 4⟩, ⟨mkStr [116,117,114,110], .bool true, 5⟩, ⟨mkStr [112,108,97,121], .bool true, 6⟩, ⟨mkStr [115,105,108,101,110,116], .bool true, 7⟩, ⟨mkStr [112,97,121], .bool true, 8⟩, ⟨mkStr [101,110,100], .bool true, 9⟩, ⟨mkStr [105,102], .bool true, 10⟩, ⟨mkStr [116,104,101,110], .bool true, 11⟩, ⟨mkStr [101,108,115,101], .bool true, 12⟩, ⟨mkStr [102,111,114], .bool true, 13⟩, ⟨mkStr [100,111], .bool true, 14⟩, ⟨mkStr [114,101,102,117,115,101], .bool true, 15⟩, ⟨mkStr [114,111,108,108], .bool true, 16⟩, ⟨mkStr [115,101,97,116], .bool true, 17⟩, ⟨mkStr [111,118,101,114], .bool true, 18⟩, ⟨mkStr [114,101,115,116], .bool true, 19⟩, ⟨mkStr [97,110,100], .bool true, 20⟩, ⟨mkStr [111,114], .bool true, 21⟩, ⟨mkStr [110,111,116], .bool true, 22⟩] 23)
def oK2 : Nat × AO := (23, .map [⟨mkStr [91], .bool true, 0⟩, ⟨mkStr [93], .bool true, 1⟩, ⟨mkStr [40], .bool true, 2⟩, ⟨mkStr [41], .bool true, 3⟩, ⟨mkStr [61], .bool true, 4⟩, ⟨mkStr [33,61], .bool true, 5⟩, ⟨mkStr [60], .bool true, 6⟩, ⟨mkStr [60,61], .bool true, 7⟩, ⟨mkStr [62], .bool true, 8⟩, ⟨mkStr [62,61], .bool true, 9⟩, ⟨mkStr [43], .bool true, 10⟩, ⟨mkStr [45], .bool true, 11⟩, ⟨mkStr [42], .bool true, 12⟩, ⟨mkStr [47], .bool true, 13⟩, ⟨mkStr [37], .bool true, 14⟩, ⟨mkStr [44], .bool true, 15⟩] 16)
def hkK3 : Hook := { f := 137, args := [], H := G0, base := 19, v := .agg #[.map (some 21), .map (some 23)], R := [oK1, oK2], next := 24 }
theorem hkK3_run : hookRes hkK3 (evCallH Tryz.prog E0 (allC []) 300 hkK3.f hkK3.args ⟨putAll hkK3.H .e, hkK3.base⟩) = true := by kernel_rfl
theorem hkK3_ok : HookOK Tryz.prog (relocCall hkK3) := reloc_ok (evCallH_ok envOK (allC_nil) 300) (ng := 12) (by kernel_rfl) (by kernel_rfl) (by kernel_rfl) (by kernel_rfl) (by kernel_rfl) (by kernel_rfl) hkK3_run
def txK1 : List UInt8 := [103,97,109,101,32,99,111,117,110,116,32,115,101,97,116,115,32,50,32,115,116,97,107,101,32,49,32,49,32,118,97,114,32,110,32,48,32,57,32,118,97,114,32,119,104,111,32,48,32,49,32,115,116,97,114,116,32,110,32,61,32,53,32,101,110,100,32,116,117,114,110,32,105,102,32,110,32,61,32,48,32,116,104,101,110,32,111,118,101,114,32,101,108,115,101,32,115,101,97,116,32,119,104,111,32,101,110,100,32,101,110,100,32,112,108,97,121,32,116,32,49,32,51,32,105,102,32,116,32,62,32,110,32,116,104,101,110,32,114,101,102,117,115,101,32,101,110,100,32,110,32,61,32,110,32,45,32,116,32,119,104,111,32,61,32,49,32,45,32,119,104,111,32,101,110,100,32,115,105,108,101,110,116,32,119,32,110,32,61,32,48,32,119,104,111,32,61,32,119,32,101,110,100,32,112,97,121,32,114,101,115,116,32,49,32,45,32,119,104,111,32,101,110,100]
def oK3 : Nat × AO := (508, .row [iv 3, mkStr [103,97,109,101], iv 0, iv 1, iv 1, iv 1, mkStr [99,111,117,110,116], iv 0, iv 1, iv 6, iv 3, mkStr [115,101,97,116,115], iv 0, iv 1, iv 12, iv 2, mkStr [50], iv 2, iv 1, iv 18, iv 3, mkStr [115,116,97,107,101], iv 0, iv 1, iv 20, iv 2, mkStr [49], iv 1, iv 1, iv 26, iv 2, mkStr [49], iv 1, iv 1, iv 28, iv 3, mkStr [118,97,114], iv 0, iv 1, iv 30, iv 1, mkStr [110], iv 0, iv 1, iv 34, iv 2, mkStr [48], iv 0, iv 1, iv 36, iv 2, mkStr [57], iv 9, iv 1, iv 38, iv 3, mkStr [118,97,114], iv 0, iv 1, iv 40, iv 1, mkStr [119,104,111], iv 0, iv 1, iv 44, iv 2, mkStr [48], iv 0, iv 1, iv 48, iv 2, mkStr [49], iv 1, iv 1, iv 50, iv 3, mkStr [115,116,97,114,116], iv 0, iv 1, iv 52, iv 1, mkStr [110], iv 0, iv 1, iv 58, iv 4, mkStr [61], iv 0, iv 1, iv 60, iv 2, mkStr [53], iv 5, iv 1, iv 62, iv 3, mkStr [101,110,100], iv 0, iv 1, iv 64, iv 3, mkStr [116,117,114,110], iv 0, iv 1, iv 68, iv 3, mkStr [105,102], iv 0, iv 1, iv 73, iv 1, mkStr [110], iv 0, iv 1, iv 76, iv 4, mkStr [61], iv 0, iv 1, iv 78, iv 2, mkStr [48], iv 0, iv 1, iv 80, iv 3, mkStr [116,104,101,110], iv 0, iv 1, iv 82, iv 3, mkStr [111,118,101,114], iv 0, iv 1, iv 87, iv 3, mkStr [101,108,115,101], iv 0, iv 1, iv 92, iv 3, mkStr [115,101,97,116], iv 0, iv 1, iv 97, iv 1, mkStr [119,104,111], iv 0, iv 1, iv 102, iv 3, mkStr [101,110,100], iv 0, iv 1, iv 106, iv 3, mkStr [101,110,100], iv 0, iv 1, iv 110, iv 3, mkStr [112,108,97,121], iv 0, iv 1, iv 114, iv 1, mkStr [116], iv 0, iv 1, iv 119, iv 2, mkStr [49], iv 1, iv 1, iv 121, iv 2, mkStr [51], iv 3, iv 1, iv 123, iv 3, mkStr [105,102], iv 0, iv 1, iv 125, iv 1, mkStr [116], iv 0, iv 1, iv 128, iv 4, mkStr [62], iv 0, iv 1, iv 130, iv 1, mkStr [110], iv 0, iv 1, iv 132, iv 3, mkStr [116,104,101,110], iv 0, iv 1, iv 134, iv 3, mkStr [114,101,102,117,115,101], iv 0, iv 1, iv 139, iv 3, mkStr [101,110,100], iv 0, iv 1, iv 146, iv 1, mkStr [110], iv 0, iv 1, iv 150, iv 4, mkStr [61], iv 0, iv 1, iv 152, iv 1, mkStr [110], iv 0, iv 1, iv 154, iv 4, mkStr [45], iv 0, iv 1, iv 156, iv 1, mkStr [116], iv 0, iv 1, iv 158, iv 1, mkStr [119,104,111], iv 0, iv 1, iv 160, iv 4, mkStr [61], iv 0, iv 1, iv 164, iv 2, mkStr [49], iv 1, iv 1, iv 166, iv 4, mkStr [45], iv 0, iv 1, iv 168, iv 1, mkStr [119,104,111], iv 0, iv 1, iv 170, iv 3, mkStr [101,110,100], iv 0, iv 1, iv 174, iv 3, mkStr [115,105,108,101,110,116], iv 0, iv 1, iv 178, iv 1, mkStr [119], iv 0, iv 1, iv 185, iv 1, mkStr [110], iv 0, iv 1, iv 187, iv 4, mkStr [61], iv 0, iv 1, iv 189, iv 2, mkStr [48], iv 0, iv 1, iv 191, iv 1, mkStr [119,104,111], iv 0, iv 1, iv 193, iv 4, mkStr [61], iv 0, iv 1, iv 197, iv 1, mkStr [119], iv 0, iv 1, iv 199, iv 3, mkStr [101,110,100], iv 0, iv 1, iv 201, iv 3, mkStr [112,97,121], iv 0, iv 1, iv 205, iv 3, mkStr [114,101,115,116], iv 0, iv 1, iv 209, iv 2, mkStr [49], iv 1, iv 1, iv 214, iv 4, mkStr [45], iv 0, iv 1, iv 216, iv 1, mkStr [119,104,111], iv 0, iv 1, iv 218, iv 3, mkStr [101,110,100], iv 0, iv 1, iv 222, iv 0, mkStr [], iv 0, iv 1, iv 225] 187 (.grown 70))
def hkK4 : Hook := { f := 101, args := [mkStr txK1], H := G0, base := 18, v := .tuple #[sv 508 70 70, .agg #[iv 0, iv 0], iv 0], R := [oK3], next := 509 }
theorem hkK4_run : hookRes hkK4 (evCallH Tryz.prog E0 (allC [relocCall hkK3]) 300 hkK4.f hkK4.args ⟨putAll hkK4.H .e, hkK4.base⟩) = true := by kernel_rfl
theorem hkK4_ok : HookOK Tryz.prog (relocCall hkK4) := reloc_ok (evCallH_ok envOK (allC_cons hkK3_ok allC_nil) 300) (ng := 12) (by kernel_rfl) (by kernel_rfl) (by kernel_rfl) (by kernel_rfl) (by kernel_rfl) (by kernel_rfl) hkK4_run
def oK4 : Nat × AO := (526, .row [iv 1, iv 1] 3 (.grown 2))
def oK5 : Nat × AO := (540, .row [mkStr [110], iv 0, iv 0, iv 9, mkStr [119,104,111], iv 0, iv 0, iv 1] 154 (.grown 2))
def oK6 : Nat × AO := (563, .row [iv 0, mkStr [110], sv 561 1 1, iv 0, iv 0, .slice none 0 0, .slice none 0 0] 237 (.grown 1))
def oK7 : Nat × AO := (561, .row [iv 0, iv 5, mkStr [], .slice none 0 0] 287 (.grown 1))
def oK8 : Nat × AO := (618, .row [iv 2, mkStr [], sv 591 1 1, iv 0, iv 0, sv 596 1 1, sv 616 1 1] 237 (.grown 1))
def oK9 : Nat × AO := (591, .row [iv 10, iv 0, mkStr [], sv 588 2 2] 287 .own)
def oK10 : Nat × AO := (588, .row [iv 1, iv 0, mkStr [110], .slice none 0 0, iv 0, iv 0, mkStr [], .slice none 0 0] 287 .own)
def oK11 : Nat × AO := (596, .row [iv 7, mkStr [], .slice none 0 0, iv 0, iv 0, .slice none 0 0, .slice none 0 0] 237 (.grown 1))
def oK12 : Nat × AO := (616, .row [iv 6, mkStr [], sv 614 1 1, iv 0, iv 0, .slice none 0 0, .slice none 0 0] 237 (.grown 1))
def oK13 : Nat × AO := (614, .row [iv 1, iv 0, mkStr [119,104,111], .slice none 0 0] 287 .own)
def oK14 : Nat × AO := (625, .row [mkStr [116], iv 0, iv 1, iv 3] 154 .own)
def oK15 : Nat × AO := (720, .row [iv 2, mkStr [], sv 653 1 1, iv 0, iv 0, sv 658 1 1, .slice none 0 0, iv 0, mkStr [110], sv 688 1 1, iv 0, iv 0, .slice none 0 0, .slice none 0 0, iv 0, mkStr [119,104,111], sv 718 1 1, iv 0, iv 0, .slice none 0 0, .slice none 0 0] 237 (.grown 3))
def oK16 : Nat × AO := (653, .row [iv 14, iv 0, mkStr [], sv 650 2 2] 287 .own)
def oK17 : Nat × AO := (650, .row [iv 1, iv 0, mkStr [116], .slice none 0 0, iv 1, iv 0, mkStr [110], .slice none 0 0] 287 .own)
def oK18 : Nat × AO := (658, .row [iv 4, mkStr [], .slice none 0 0, iv 0, iv 0, .slice none 0 0, .slice none 0 0] 237 (.grown 1))
def oK19 : Nat × AO := (688, .row [iv 9, iv 0, mkStr [], sv 683 2 2] 287 (.grown 1))
def oK20 : Nat × AO := (683, .row [iv 1, iv 0, mkStr [110], .slice none 0 0, iv 1, iv 0, mkStr [116], .slice none 0 0] 287 .own)
def oK21 : Nat × AO := (718, .row [iv 9, iv 0, mkStr [], sv 713 2 2] 287 (.grown 1))
def oK22 : Nat × AO := (713, .row [iv 0, iv 1, mkStr [], .slice none 0 0, iv 1, iv 0, mkStr [119,104,111], .slice none 0 0] 287 .own)
def oK23 : Nat × AO := (767, .row [iv 0, mkStr [110], sv 742 1 1, iv 0, iv 0, .slice none 0 0, .slice none 0 0, iv 0, mkStr [119,104,111], sv 765 1 1, iv 0, iv 0, .slice none 0 0, .slice none 0 0] 237 (.grown 2))
def oK24 : Nat × AO := (742, .row [iv 0, iv 0, mkStr [], .slice none 0 0] 287 (.grown 1))
def oK25 : Nat × AO := (765, .row [iv 1, iv 0, mkStr [119], .slice none 0 0] 287 (.grown 1))
def oK26 : Nat × AO := (794, .row [iv 9, mkStr [], sv 792 1 1, iv 0, iv 0, .slice none 0 0, .slice none 0 0] 237 (.grown 1))
def oK27 : Nat × AO := (792, .row [iv 9, iv 0, mkStr [], sv 788 2 2] 287 .own)
def oK28 : Nat × AO := (788, .row [iv 0, iv 1, mkStr [], .slice none 0 0, iv 1, iv 0, mkStr [119,104,111], .slice none 0 0] 287 .own)
def sqK1 : List (Nat × AO) := [oK4, oK5, oK6, oK7, oK8, oK9, oK10, oK11, oK12, oK13, oK14, oK15, oK16, oK17, oK18, oK19, oK20, oK21, oK22, oK23, oK24, oK25, oK26, oK27, oK28]
def hkK5 : Hook := { f := 65, args := [mkStr txK1], H := G0, base := 14, v := .tuple #[.agg #[mkStr [99,111,117,110,116], iv 2, sv 526 2 2, sv 540 2 2, sv 563 1 1, sv 618 1 1, sv 625 1 1, sv 720 3 3, mkStr [119], sv 767 2 2, sv 794 1 1], .agg #[iv 0, iv 0], iv 0], R := sqK1, next := 796 }
theorem hkK5_run : hookRes hkK5 (evCallH Tryz.prog E0 (allC [relocCall hkK4]) 300 hkK5.f hkK5.args ⟨putAll hkK5.H .e, hkK5.base⟩) = true := by kernel_rfl
theorem hkK5_ok : HookOK Tryz.prog (relocCall hkK5) := reloc_ok (evCallH_ok envOK (allC_cons hkK4_ok allC_nil) 300) (ng := 12) (by kernel_rfl) (by kernel_rfl) (by kernel_rfl) (by kernel_rfl) (by kernel_rfl) (by kernel_rfl) hkK5_run
def hkK6 : Hook := { f := 156, args := [mkStr [99,111,117,110,116]], H := G0, base := 1007, v := .bool true, R := [], next := 1013 }
theorem hkK6_run : hookRes hkK6 (evCallH Tryz.prog E0 (allC [relocCall hkK3]) 300 hkK6.f hkK6.args ⟨putAll hkK6.H .e, hkK6.base⟩) = true := by kernel_rfl
theorem hkK6_ok : HookOK Tryz.prog (relocCall hkK6) := reloc_ok (evCallH_ok envOK (allC_cons hkK3_ok allC_nil) 300) (ng := 12) (by kernel_rfl) (by kernel_rfl) (by kernel_rfl) (by kernel_rfl) (by kernel_rfl) (by kernel_rfl) hkK6_run
def hkK7 : Hook := { f := 156, args := [mkStr [110]], H := G0, base := 1015, v := .bool true, R := [], next := 1021 }
theorem hkK7_run : hookRes hkK7 (evCallH Tryz.prog E0 (allC [relocCall hkK3]) 300 hkK7.f hkK7.args ⟨putAll hkK7.H .e, hkK7.base⟩) = true := by kernel_rfl
theorem hkK7_ok : HookOK Tryz.prog (relocCall hkK7) := reloc_ok (evCallH_ok envOK (allC_cons hkK3_ok allC_nil) 300) (ng := 12) (by kernel_rfl) (by kernel_rfl) (by kernel_rfl) (by kernel_rfl) (by kernel_rfl) (by kernel_rfl) hkK7_run
def hkK8 : Hook := { f := 156, args := [mkStr [119,104,111]], H := G0, base := 1023, v := .bool true, R := [], next := 1029 }
theorem hkK8_run : hookRes hkK8 (evCallH Tryz.prog E0 (allC [relocCall hkK3]) 300 hkK8.f hkK8.args ⟨putAll hkK8.H .e, hkK8.base⟩) = true := by kernel_rfl
theorem hkK8_ok : HookOK Tryz.prog (relocCall hkK8) := reloc_ok (evCallH_ok envOK (allC_cons hkK3_ok allC_nil) 300) (ng := 12) (by kernel_rfl) (by kernel_rfl) (by kernel_rfl) (by kernel_rfl) (by kernel_rfl) (by kernel_rfl) hkK8_run
def hkK9 : Hook := { f := 156, args := [mkStr [116]], H := G0, base := 1038, v := .bool true, R := [], next := 1044 }
theorem hkK9_run : hookRes hkK9 (evCallH Tryz.prog E0 (allC [relocCall hkK3]) 300 hkK9.f hkK9.args ⟨putAll hkK9.H .e, hkK9.base⟩) = true := by kernel_rfl
theorem hkK9_ok : HookOK Tryz.prog (relocCall hkK9) := reloc_ok (evCallH_ok envOK (allC_cons hkK3_ok allC_nil) 300) (ng := 12) (by kernel_rfl) (by kernel_rfl) (by kernel_rfl) (by kernel_rfl) (by kernel_rfl) (by kernel_rfl) hkK9_run
def hkK10 : Hook := { f := 156, args := [mkStr [119]], H := G0, base := 1048, v := .bool true, R := [], next := 1054 }
theorem hkK10_run : hookRes hkK10 (evCallH Tryz.prog E0 (allC [relocCall hkK3]) 300 hkK10.f hkK10.args ⟨putAll hkK10.H .e, hkK10.base⟩) = true := by kernel_rfl
theorem hkK10_ok : HookOK Tryz.prog (relocCall hkK10) := reloc_ok (evCallH_ok envOK (allC_cons hkK3_ok allC_nil) 300) (ng := 12) (by kernel_rfl) (by kernel_rfl) (by kernel_rfl) (by kernel_rfl) (by kernel_rfl) (by kernel_rfl) hkK10_run
def txK2 : List UInt8 := [103,97,109,101,32,99,111,117,110,116,10,115,101,97,116,115,32,50,10,115,116,97,107,101,32,49,32,49,10,118,97,114,32,110,32,48,32,57,10,118,97,114,32,119,104,111,32,48,32,49,10,115,116,97,114,116,10,32,32,110,32,61,32,53,10,101,110,100,10,116,117,114,110,10,32,32,105,102,32,110,32,61,32,48,32,116,104,101,110,10,32,32,32,32,111,118,101,114,10,32,32,101,108,115,101,10,32,32,32,32,115,101,97,116,32,119,104,111,10,32,32,101,110,100,10,101,110,100,10,112,108,97,121,32,116,32,49,32,51,10,32,32,105,102,32,116,32,62,32,110,32,116,104,101,110,10,32,32,32,32,114,101,102,117,115,101,10,32,32,101,110,100,10,32,32,110,32,61,32,110,32,45,32,116,10,32,32,119,104,111,32,61,32,49,32,45,32,119,104,111,10,101,110,100,10,115,105,108,101,110,116,32,119,10,32,32,110,32,61,32,48,10,32,32,119,104,111,32,61,32,119,10,101,110,100,10,112,97,121,10,32,32,114,101,115,116,32,49,32,45,32,119,104,111,10,101,110,100,10]
def oK29 : Nat × AO := (2665, .row [iv 3, mkStr [103,97,109,101], iv 0, iv 1, iv 1, iv 1, mkStr [99,111,117,110,116], iv 0, iv 1, iv 6, iv 3, mkStr [115,101,97,116,115], iv 0, iv 2, iv 1, iv 2, mkStr [50], iv 2, iv 2, iv 7, iv 3, mkStr [115,116,97,107,101], iv 0, iv 3, iv 1, iv 2, mkStr [49], iv 1, iv 3, iv 7, iv 2, mkStr [49], iv 1, iv 3, iv 9, iv 3, mkStr [118,97,114], iv 0, iv 4, iv 1, iv 1, mkStr [110], iv 0, iv 4, iv 5, iv 2, mkStr [48], iv 0, iv 4, iv 7, iv 2, mkStr [57], iv 9, iv 4, iv 9, iv 3, mkStr [118,97,114], iv 0, iv 5, iv 1, iv 1, mkStr [119,104,111], iv 0, iv 5, iv 5, iv 2, mkStr [48], iv 0, iv 5, iv 9, iv 2, mkStr [49], iv 1, iv 5, iv 11, iv 3, mkStr [115,116,97,114,116], iv 0, iv 6, iv 1, iv 1, mkStr [110], iv 0, iv 7, iv 3, iv 4, mkStr [61], iv 0, iv 7, iv 5, iv 2, mkStr [53], iv 5, iv 7, iv 7, iv 3, mkStr [101,110,100], iv 0, iv 8, iv 1, iv 3, mkStr [116,117,114,110], iv 0, iv 9, iv 1, iv 3, mkStr [105,102], iv 0, iv 10, iv 3, iv 1, mkStr [110], iv 0, iv 10, iv 6, iv 4, mkStr [61], iv 0, iv 10, iv 8, iv 2, mkStr [48], iv 0, iv 10, iv 10, iv 3, mkStr [116,104,101,110], iv 0, iv 10, iv 12, iv 3, mkStr [111,118,101,114], iv 0, iv 11, iv 5, iv 3, mkStr [101,108,115,101], iv 0, iv 12, iv 3, iv 3, mkStr [115,101,97,116], iv 0, iv 13, iv 5, iv 1, mkStr [119,104,111], iv 0, iv 13, iv 10, iv 3, mkStr [101,110,100], iv 0, iv 14, iv 3, iv 3, mkStr [101,110,100], iv 0, iv 15, iv 1, iv 3, mkStr [112,108,97,121], iv 0, iv 16, iv 1, iv 1, mkStr [116], iv 0, iv 16, iv 6, iv 2, mkStr [49], iv 1, iv 16, iv 8, iv 2, mkStr [51], iv 3, iv 16, iv 10, iv 3, mkStr [105,102], iv 0, iv 17, iv 3, iv 1, mkStr [116], iv 0, iv 17, iv 6, iv 4, mkStr [62], iv 0, iv 17, iv 8, iv 1, mkStr [110], iv 0, iv 17, iv 10, iv 3, mkStr [116,104,101,110], iv 0, iv 17, iv 12, iv 3, mkStr [114,101,102,117,115,101], iv 0, iv 18, iv 5, iv 3, mkStr [101,110,100], iv 0, iv 19, iv 3, iv 1, mkStr [110], iv 0, iv 20, iv 3, iv 4, mkStr [61], iv 0, iv 20, iv 5, iv 1, mkStr [110], iv 0, iv 20, iv 7, iv 4, mkStr [45], iv 0, iv 20, iv 9, iv 1, mkStr [116], iv 0, iv 20, iv 11, iv 1, mkStr [119,104,111], iv 0, iv 21, iv 3, iv 4, mkStr [61], iv 0, iv 21, iv 7, iv 2, mkStr [49], iv 1, iv 21, iv 9, iv 4, mkStr [45], iv 0, iv 21, iv 11, iv 1, mkStr [119,104,111], iv 0, iv 21, iv 13, iv 3, mkStr [101,110,100], iv 0, iv 22, iv 1, iv 3, mkStr [115,105,108,101,110,116], iv 0, iv 23, iv 1, iv 1, mkStr [119], iv 0, iv 23, iv 8, iv 1, mkStr [110], iv 0, iv 24, iv 3, iv 4, mkStr [61], iv 0, iv 24, iv 5, iv 2, mkStr [48], iv 0, iv 24, iv 7, iv 1, mkStr [119,104,111], iv 0, iv 25, iv 3, iv 4, mkStr [61], iv 0, iv 25, iv 7, iv 1, mkStr [119], iv 0, iv 25, iv 9, iv 3, mkStr [101,110,100], iv 0, iv 26, iv 1, iv 3, mkStr [112,97,121], iv 0, iv 27, iv 1, iv 3, mkStr [114,101,115,116], iv 0, iv 28, iv 3, iv 2, mkStr [49], iv 1, iv 28, iv 8, iv 4, mkStr [45], iv 0, iv 28, iv 10, iv 1, mkStr [119,104,111], iv 0, iv 28, iv 12, iv 3, mkStr [101,110,100], iv 0, iv 29, iv 1, iv 0, mkStr [], iv 0, iv 30, iv 1] 187 (.grown 70))
def hkK11 : Hook := { f := 101, args := [mkStr txK2], H := G0, base := 2140, v := .tuple #[sv 2665 70 70, .agg #[iv 0, iv 0], iv 0], R := [oK29], next := 2666 }
theorem hkK11_run : hookRes hkK11 (evCallH Tryz.prog E0 (allC [relocCall hkK3]) 300 hkK11.f hkK11.args ⟨putAll hkK11.H .e, hkK11.base⟩) = true := by kernel_rfl
theorem hkK11_ok : HookOK Tryz.prog (relocCall hkK11) := reloc_ok (evCallH_ok envOK (allC_cons hkK3_ok allC_nil) 300) (ng := 12) (by kernel_rfl) (by kernel_rfl) (by kernel_rfl) (by kernel_rfl) (by kernel_rfl) (by kernel_rfl) hkK11_run
def oK30 : Nat × AO := (2683, .row [iv 1, iv 1] 3 (.grown 2))
def oK31 : Nat × AO := (2697, .row [mkStr [110], iv 0, iv 0, iv 9, mkStr [119,104,111], iv 0, iv 0, iv 1] 154 (.grown 2))
def oK32 : Nat × AO := (2720, .row [iv 0, mkStr [110], sv 2718 1 1, iv 0, iv 0, .slice none 0 0, .slice none 0 0] 237 (.grown 1))
def oK33 : Nat × AO := (2718, .row [iv 0, iv 5, mkStr [], .slice none 0 0] 287 (.grown 1))
def oK34 : Nat × AO := (2775, .row [iv 2, mkStr [], sv 2748 1 1, iv 0, iv 0, sv 2753 1 1, sv 2773 1 1] 237 (.grown 1))
def oK35 : Nat × AO := (2748, .row [iv 10, iv 0, mkStr [], sv 2745 2 2] 287 .own)
def oK36 : Nat × AO := (2745, .row [iv 1, iv 0, mkStr [110], .slice none 0 0, iv 0, iv 0, mkStr [], .slice none 0 0] 287 .own)
def oK37 : Nat × AO := (2753, .row [iv 7, mkStr [], .slice none 0 0, iv 0, iv 0, .slice none 0 0, .slice none 0 0] 237 (.grown 1))
def oK38 : Nat × AO := (2773, .row [iv 6, mkStr [], sv 2771 1 1, iv 0, iv 0, .slice none 0 0, .slice none 0 0] 237 (.grown 1))
def oK39 : Nat × AO := (2771, .row [iv 1, iv 0, mkStr [119,104,111], .slice none 0 0] 287 .own)
def oK40 : Nat × AO := (2782, .row [mkStr [116], iv 0, iv 1, iv 3] 154 .own)
def oK41 : Nat × AO := (2877, .row [iv 2, mkStr [], sv 2810 1 1, iv 0, iv 0, sv 2815 1 1, .slice none 0 0, iv 0, mkStr [110], sv 2845 1 1, iv 0, iv 0, .slice none 0 0, .slice none 0 0, iv 0, mkStr [119,104,111], sv 2875 1 1, iv 0, iv 0, .slice none 0 0, .slice none 0 0] 237 (.grown 3))
def oK42 : Nat × AO := (2810, .row [iv 14, iv 0, mkStr [], sv 2807 2 2] 287 .own)
def oK43 : Nat × AO := (2807, .row [iv 1, iv 0, mkStr [116], .slice none 0 0, iv 1, iv 0, mkStr [110], .slice none 0 0] 287 .own)
def oK44 : Nat × AO := (2815, .row [iv 4, mkStr [], .slice none 0 0, iv 0, iv 0, .slice none 0 0, .slice none 0 0] 237 (.grown 1))
def oK45 : Nat × AO := (2845, .row [iv 9, iv 0, mkStr [], sv 2840 2 2] 287 (.grown 1))
def oK46 : Nat × AO := (2840, .row [iv 1, iv 0, mkStr [110], .slice none 0 0, iv 1, iv 0, mkStr [116], .slice none 0 0] 287 .own)
def oK47 : Nat × AO := (2875, .row [iv 9, iv 0, mkStr [], sv 2870 2 2] 287 (.grown 1))
def oK48 : Nat × AO := (2870, .row [iv 0, iv 1, mkStr [], .slice none 0 0, iv 1, iv 0, mkStr [119,104,111], .slice none 0 0] 287 .own)
def oK49 : Nat × AO := (2924, .row [iv 0, mkStr [110], sv 2899 1 1, iv 0, iv 0, .slice none 0 0, .slice none 0 0, iv 0, mkStr [119,104,111], sv 2922 1 1, iv 0, iv 0, .slice none 0 0, .slice none 0 0] 237 (.grown 2))
def oK50 : Nat × AO := (2899, .row [iv 0, iv 0, mkStr [], .slice none 0 0] 287 (.grown 1))
def oK51 : Nat × AO := (2922, .row [iv 1, iv 0, mkStr [119], .slice none 0 0] 287 (.grown 1))
def oK52 : Nat × AO := (2951, .row [iv 9, mkStr [], sv 2949 1 1, iv 0, iv 0, .slice none 0 0, .slice none 0 0] 237 (.grown 1))
def oK53 : Nat × AO := (2949, .row [iv 9, iv 0, mkStr [], sv 2945 2 2] 287 .own)
def oK54 : Nat × AO := (2945, .row [iv 0, iv 1, mkStr [], .slice none 0 0, iv 1, iv 0, mkStr [119,104,111], .slice none 0 0] 287 .own)
def sqK2 : List (Nat × AO) := [oK30, oK31, oK32, oK33, oK34, oK35, oK36, oK37, oK38, oK39, oK40, oK41, oK42, oK43, oK44, oK45, oK46, oK47, oK48, oK49, oK50, oK51, oK52, oK53, oK54]
def hkK12 : Hook := { f := 65, args := [mkStr txK2], H := G0, base := 2136, v := .tuple #[.agg #[mkStr [99,111,117,110,116], iv 2, sv 2683 2 2, sv 2697 2 2, sv 2720 1 1, sv 2775 1 1, sv 2782 1 1, sv 2877 3 3, mkStr [119], sv 2924 2 2, sv 2951 1 1], .agg #[iv 0, iv 0], iv 0], R := sqK2, next := 2953 }
theorem hkK12_run : hookRes hkK12 (evCallH Tryz.prog E0 (allC [relocCall hkK11]) 300 hkK12.f hkK12.args ⟨putAll hkK12.H .e, hkK12.base⟩) = true := by kernel_rfl
theorem hkK12_ok : HookOK Tryz.prog (relocCall hkK12) := reloc_ok (evCallH_ok envOK (allC_cons hkK11_ok allC_nil) 300) (ng := 12) (by kernel_rfl) (by kernel_rfl) (by kernel_rfl) (by kernel_rfl) (by kernel_rfl) (by kernel_rfl) hkK12_run
def oK55 : Nat × AO := (3079, .row [mkStr [99,111,117,110,116], sv 3078 2 2, bv 158, bv 99, bv 237, bv 163, bv 205, bv 22, bv 140, bv 84, pv 1444, sv 3136 1 1, sv 3146 2 2] 120 .own)
def oK56 : Nat × AO := (3078, .row [iv 1, iv 1] 3 (.grown 2))
def oK57 : Nat × AO := (1444, .row [iv 2, iv 2, sv 1450 2 2, sv 1443 1 1, sv 1481 4 4, sv 1534 11 11, sv 1625 16 16, sv 1672 7 7, sv 1711 7 7, iv 12, iv 19, iv 31, iv 16, iv 15] 166 .own)
def oK58 : Nat × AO := (1450, .row [wv32 0, wv32 0] 21 (.grown 2))
def oK59 : Nat × AO := (1443, .row [mkStr [116], iv 0, iv 1, iv 3] 154 (.grown 1))
def oK60 : Nat × AO := (1481, .row (ivs [1,35,5,0,17,35,0,9,2,0,35,0,0,0,0,0]) 278 (.grown 4))
def oK61 : Nat × AO := (1534, .row [iv 2, iv 35, iv 0, iv 0, iv 1, iv 36, iv 0, iv 0, iv 8, iv 35, iv 35, iv 36, iv 20, iv 7, iv 35, iv 0, iv 1, iv 6, nv 0, iv 0, iv 0, iv 0, iv 0, iv 0, iv 19, iv 10, iv 0, iv 0, iv 2, iv 35, iv 1, iv 0, iv 2, iv 6, iv 35, iv 0, iv 0, iv 0, iv 0, iv 0, iv 0, iv 0, iv 0, iv 0] 278 (.grown 11))
def oK62 : Nat × AO := (1625, .row (ivs [2,35,0,0,2,36,2,0,10,35,35,36,20,5,35,0,0,1,0,0,2,35,0,0,2,36,2,0,4,35,35,36,17,35,0,9,2,0,35,0,1,35,1,0,2,36,1,0,4,35,35,36,17,35,0,1,2,1,35,0,0,0,0,0]) 278 (.grown 16))
def oK63 : Nat × AO := (1672, .row (ivs [1,35,0,0,17,35,0,9,2,0,35,0,2,35,2,0,17,35,0,1,2,1,35,0,0,0,0,0]) 278 (.grown 7))
def oK64 : Nat × AO := (1711, .row (ivs [1,35,1,0,2,36,1,0,4,35,35,36,18,36,35,2,5,35,35,36,2,9,35,0,0,0,0,0]) 278 (.grown 7))
def oK65 : Nat × AO := (3136, .row [wv32 1, wv32 3] 131 (.grown 1))
def oK66 : Nat × AO := (3146, .row (wvs [0,9,0,1]) 131 (.grown 2))
def sqK3 : List (Nat × AO) := [oK55, oK56, oK57, oK58, oK59, oK60, oK61, oK62, oK63, oK64, oK65, oK66, oK4, oK5, oK6, oK7, oK8, oK9, oK10, oK11, oK12, oK13, oK14, oK15, oK16, oK17, oK18, oK19, oK20, oK21, oK22, oK23, oK24, oK25, oK26, oK27, oK28]
def hkK13 : Hook := { f := 66, args := [.agg #[mkStr [99,111,117,110,116], iv 2, sv 526 2 2, sv 540 2 2, sv 563 1 1, sv 618 1 1, sv 625 1 1, sv 720 3 3, mkStr [119], sv 767 2 2, sv 794 1 1]], H := G0 ++ sqK1, base := 1000, v := .tuple #[pv 3079, iv 0], R := sqK3, next := 3147 }
theorem hkK13_run : hookRes hkK13 (evCallH Tryz.prog E0 (allC [relocCall hkK6, relocCall hkK7, relocCall hkK8, relocCall hkK9, relocCall hkK10, relocCall hkK12]) 300 hkK13.f hkK13.args ⟨putAll hkK13.H .e, hkK13.base⟩) = true := by kernel_rfl
theorem hkK13_shape : hookShape hkK13 = true := by kernel_rfl
theorem hkK13_ok : HookOK Tryz.prog (hookCall hkK13) := hook_ok (evCallH_ok envOK (allC_cons hkK6_ok (allC_cons hkK7_ok (allC_cons hkK8_ok (allC_cons hkK9_ok (allC_cons hkK10_ok (allC_cons hkK12_ok allC_nil)))))) 300) hkK13_shape hkK13_run
def sqK4 : List (Nat × AO) := [oK55, oK56, oK57, oK58, oK59, oK60, oK61, oK62, oK63, oK64, oK65, oK66]
def hkK14 : Hook := { f := 24, args := [mkStr txK1], H := G0, base := 14, v := .tuple #[pv 3079, iv 0], R := sqK4, next := 3147 }
theorem hkK14_run : hookRes hkK14 (evCallH Tryz.prog E0 (allC [relocCall hkK5, hookCall hkK13]) 300 hkK14.f hkK14.args ⟨putAll hkK14.H .e, hkK14.base⟩) = true := by kernel_rfl
theorem hkK14_ok : HookOK Tryz.prog (relocCall hkK14) := reloc_ok (evCallH_ok envOK (allC_cons hkK5_ok (allC_cons hkK13_ok allC_nil)) 300) (ng := 12) (by kernel_rfl) (by kernel_rfl) (by kernel_rfl) (by kernel_rfl) (by kernel_rfl) (by kernel_rfl) hkK14_run
def oK67 : Nat × AO := (3149, .row [bv 1, bv 0, bv 0, bv 0, bv 0, bv 0, bv 0, bv 0, iv 20, iv 20] 125 .own)
def oK68 : Nat × AO := (3151, .row [bv 2, bv 0, bv 0, bv 0, bv 0, bv 0, bv 0, bv 0, iv 20, iv 20] 125 .own)
def hkK15 : Hook := { f := 26, args := [], H := G0, base := 3147, v := .agg #[pv 3149, pv 3151], R := [oK67, oK68], next := 3152 }
theorem hkK15_run : hookRes hkK15 (evCallH Tryz.prog E0 (allC []) 300 hkK15.f hkK15.args ⟨putAll hkK15.H .e, hkK15.base⟩) = true := by kernel_rfl
theorem hkK15_ok : HookOK Tryz.prog (relocCall hkK15) := reloc_ok (evCallH_ok envOK (allC_nil) 300) (ng := 12) (by kernel_rfl) (by kernel_rfl) (by kernel_rfl) (by kernel_rfl) (by kernel_rfl) (by kernel_rfl) hkK15_run
def oK69 : Nat × AO := (3156, .row (bvs [84,20,162,125,185,95,193,130,195,192,90,36,52,89,115,35]) 47 .own)
def sqK5 : List (Nat × AO) := [oK55, oK56, oK57, oK58, oK59, oK60, oK61, oK62, oK63, oK64, oK65, oK66, oK69]
def oK70 : Nat × AO := (4048, .row [wv32 5, wv32 0] 21 (.grown 2))
def oK71 : Nat × AO := (4050, .row [.bool false, .bool false] 4 .own)
def oK72 : Nat × AO := (4052, .row (bvs [84,20,162,125,185,95,193,130,195,192,90,36,52,89,115,35]) 47 (.grown 2))
def sqK6 : List (Nat × AO) := [oK70, oK71, oK72, oK55, oK56, oK57, oK58, oK59, oK60, oK61, oK62, oK63, oK64, oK65, oK66, oK69]
def hkK16 : Hook := { f := 27, args := [pv 3079, sv 3156 2 2], H := G0 ++ sqK5, base := 4000, v := .tuple #[.agg #[sv 4048 2 2, sv 4050 2 2, sv 4052 2 2, iv 0, iv 0, iv 0, iv 0, .int .u64 (.ofNat 0)], iv 0], R := sqK6, next := 4053 }
theorem hkK16_run : hookRes hkK16 (evCallH Tryz.prog E0 (allC []) 300 hkK16.f hkK16.args ⟨putAll hkK16.H .e, hkK16.base⟩) = true := by kernel_rfl
theorem hkK16_shape : hookShape hkK16 = true := by kernel_rfl
theorem hkK16_ok : HookOK Tryz.prog (hookCall hkK16) := hook_ok (evCallH_ok envOK (allC_nil) 300) hkK16_shape hkK16_run
def sqK7 : List (Nat × AO) := [oK55, oK56, oK57, oK58, oK59, oK60, oK61, oK62, oK63, oK64, oK65, oK66, oK70, oK71, oK72]
def hkK17 : Hook := { f := 10, args := [bv 0], H := G0, base := 12, v := .tuple #[pv 3079, .agg #[sv 4048 2 2, sv 4050 2 2, sv 4052 2 2, iv 0, iv 0, iv 0, iv 0, .int .u64 (.ofNat 0)]], R := sqK7, next := 4053 }
theorem hkK17_run : hookRes hkK17 (evCallH Tryz.prog E0 (allC [pgK2, relocCall hkK14, relocCall hkK15, hookCall hkK16]) 300 hkK17.f hkK17.args ⟨putAll hkK17.H .e, hkK17.base⟩) = true := by kernel_rfl
theorem hkK17_ok : HookOK Tryz.prog (relocCall hkK17) := reloc_ok (evCallH_ok envOK (allC_cons pgK2_ok (allC_cons hkK14_ok (allC_cons hkK15_ok (allC_cons hkK16_ok allC_nil)))) 300) (ng := 12) (by kernel_rfl) (by kernel_rfl) (by kernel_rfl) (by kernel_rfl) (by kernel_rfl) (by kernel_rfl) hkK17_run
end Go.Proofs.YtfkacmmcgncooaaGreatDoor
