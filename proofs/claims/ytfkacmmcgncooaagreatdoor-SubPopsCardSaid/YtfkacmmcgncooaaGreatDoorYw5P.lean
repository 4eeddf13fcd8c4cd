/- What an inner table pays goes into the one around it: the law. -/
import Derived.Test.YtfkacmmcgncooaaGreatDoorYq3P
import Derived.Test.YtfkacmmcgncooaaGreatDoorYw1P
set_option maxRecDepth 100000
namespace Go.Proofs.YtfkacmmcgncooaaGreatDoor
open Go.Ev
theorem lw2 {x y u v : Int} (h : lwin [tgI .i64 x, tgI .i64 y] 0 2 = [tgI .i64 u, tgI .i64 v]) : x = u /\ y = v := by
 have h : [tgI .i64 x, tgI .i64 y] = [tgI .i64 u, tgI .i64 v] := h
 injection h with h1 h2
 injection h2 with h2 _
 injection h1 with _ h1
 injection h2 with _ h2
 injection h1 with _ h1
 injection h2 with _ h2
 exact ⟨h1, h2⟩
variable [Frozen Tryz.prog]
noncomputable section
def W_G_pops_0 : MnA -> Option Addr := fun (a : MnA) => a.4
def W_G_pops_1 : Nat -> Nat -> Option Addr := fun (a b : Nat) => some (Addr.mk a b none)
def W_G_pops_2 : MnB -> Option AO := fun (a : MnB) => some (AO.row ([Zp 14 0, sc 26 2, sc 27 2, sc 28 2, tgI .i64 a.1.1.2.4, tgI .i64 a.1.1.2.5, tgI .i64 a.1.1.2.6, tgI .i64
 a.1.1.2.7, tgI .u64 a.1.1.2.8, sc 29 2] ++ ([Zp 30 0, sc 42 2, sc 43 2, sc 44 2, tgI .i64 a.1.2.2.4, tgI .i64 a.1.2.2.5, tgI .i64 a.1.2.2.6, tgI .i64 a.1.2.2.7, tgI
 .u64 a.1.2.2.8, sc 45 2] ++ [])) 83 (Md.grown 2))
def W_G_pops_3 : MnB -> Option AO := fun (a : MnB) => some (AO.row [Zp 14 0, sc 49 2, sc 50 2, sc 51 2, tgI .i64 a.1.1.2.4, tgI .i64 a.1.1.2.5, tgI .i64 a.1.1.2.6, tgI .i64
 a.1.1.2.7, tgI .u64 a.1.1.2.8, sc 52 2] 83 Md.own)
def W_G_pops_4 : MnB -> Option AO := fun (a : MnB) => some (AO.row [Zp 30 0, sc 58 2, sc 59 2, sc 60 2, tgI .i64 a.1.2.2.4, tgI .i64 a.1.2.2.5, tgI .i64 a.1.2.2.6, tgI .i64
 a.1.2.2.7, tgI .u64 a.1.2.2.8, sc 61 2] 83 Md.own)
def W_G_pops_5 : MnB -> Option AO := fun (a : MnB) => some (AO.row [Zp 14 0, sc 26 2, sc 27 2, sc 28 2, tgI .i64 a.1.1.2.4, tgI .i64 a.1.1.2.5, tgI .i64 a.1.1.2.6, tgI .i64
 a.1.1.2.7, tgI .u64 a.1.1.2.8, sc 29 2] 83 (Md.grown 1))
def W_G_pops_6 : MnB -> Option AO := fun (a : MnB) => some (AO.row [Zp 14 0, sc 68 2, sc 69 2, sc 70 2, tgI .i64 a.1.1.2.4, tgI .i64 a.1.1.2.5, tgI .i64 a.1.1.2.6, tgI .i64
 a.1.1.2.7, tgI .u64 a.1.1.2.8, sc 71 2] 83 Md.own)
def W_G_pops_7 : MnB -> Option AO := fun (a : MnB) => some (AO.row [Value.int .u8 a.1.1.1.19.1, Value.int .u8 a.1.1.1.19.2, Value.int .u8 a.1.1.1.19.3, Value.int .u8
 a.1.1.1.19.4, Value.int .u8 a.1.1.1.19.5, Value.int .u8 a.1.1.1.19.6, Value.int .u8 a.1.1.1.19.7, Value.int .u8 a.1.1.1.19.8, sc 49 2, sc 50 2, sc 51 2, tgI .i64
 a.1.1.2.4, tgI .i64 a.1.1.2.5, tgI .i64 a.1.1.2.6, tgI .i64 a.1.1.2.7, tgI .u64 a.1.1.2.8, sc 52 2] 49 Md.own)
def W_G_pops_8 : MnB -> Option AO := fun (a : MnB) => some (AO.row [Value.int .u8 a.1.2.1.19.1, Value.int .u8 a.1.2.1.19.2, Value.int .u8 a.1.2.1.19.3, Value.int .u8
 a.1.2.1.19.4, Value.int .u8 a.1.2.1.19.5, Value.int .u8 a.1.2.1.19.6, Value.int .u8 a.1.2.1.19.7, Value.int .u8 a.1.2.1.19.8, sc 58 2, sc 59 2, sc 60 2, tgI .i64
 a.1.2.2.4, tgI .i64 a.1.2.2.5, tgI .i64 a.1.2.2.6, tgI .i64 a.1.2.2.7, tgI .u64 a.1.2.2.8, sc 61 2] 49 Md.own)
def W_G_pops_9 : MnB -> Option AO := fun (a : MnB) => some (AO.row [Zp 14 0, sc 26 2, sc 27 2, sc 28 2, tgI .i64 a.1.1.2.4, tgI .i64 a.1.1.2.5, tgI .i64 a.1.1.2.6, tgI .i64
 a.1.1.2.7, tgI .u64 a.1.1.2.8, sc 29 2, Zp 30 0, sc 42 2, sc 43 2, sc 44 2, tgI .i64 a.1.2.2.4, tgI .i64 a.1.2.2.5, tgI .i64 a.1.2.2.6, tgI .i64 a.1.2.2.7, tgI .u64
 a.1.2.2.8, sc 45 2] 83 (Md.grown 2))
def W_G_pops_10 : MnB -> Option AO := fun (a : MnB) => some (AO.row [Zp 14 0, sc 67 2, sc 68 2, sc 69 2, tgI .i64 a.1.1.2.4, tgI .i64 a.1.1.2.5, tgI .i64 a.1.1.2.6, tgI .i64
 a.1.1.2.7, tgI .u64 a.1.1.2.8, sc 70 2] 83 Md.own)
def W_G_pops_11 : MnB -> Option AO := fun (a : MnB) => some (AO.row ([Zp 14 0, sc 26 2, sc 27 2, sc 28 2, tgI .i64 a.1.1.2.4, tgI .i64 a.1.1.2.5, tgI .i64 a.1.1.2.6, tgI
 .i64 a.1.1.2.7, tgI .u64 a.1.1.2.8, sc 29 2] ++ ([Zp 30 0, sc 42 2, sc 43 2, sc 44 2, tgI .i64 a.1.2.2.4, tgI .i64 a.1.2.2.5, tgI .i64 a.1.2.2.6, tgI .i64
 a.1.2.2.7, tgI .u64 a.1.2.2.8, sc 45 2] ++ ([Zp 46 0, sc 58 2, sc 59 2, sc 60 2, tgI .i64 a.1.3.2.4, tgI .i64 a.1.3.2.5, tgI .i64 a.1.3.2.6, tgI .i64 a.1.3.2.7,
 tgI .u64 a.1.3.2.8, sc 61 2] ++ []))) 83 (Md.grown 3))
def W_G_pops_12 : MnB -> Option AO := fun (a : MnB) => some (AO.row [Zp 30 0, sc 65 2, sc 66 2, sc 67 2, tgI .i64 a.1.2.2.4, tgI .i64 a.1.2.2.5, tgI .i64 a.1.2.2.6, tgI
 .i64 a.1.2.2.7, tgI .u64 a.1.2.2.8, sc 68 2] 83 Md.own)
def W_G_pops_13 : MnB -> Option AO := fun (a : MnB) => some (AO.row [Zp 46 0, sc 74 2, sc 75 2, sc 76 2, tgI .i64 a.1.3.2.4, tgI .i64 a.1.3.2.5, tgI .i64 a.1.3.2.6, tgI
 .i64 a.1.3.2.7, tgI .u64 a.1.3.2.8, sc 77 2] 83 Md.own)
def W_G_pops_14 : MnB -> Option AO := fun (a : MnB) => some (AO.row [Zp 30 0, sc 84 2, sc 85 2, sc 86 2, tgI .i64 a.1.2.2.4, tgI .i64 a.1.2.2.5, tgI .i64 a.1.2.2.6, tgI
 .i64 a.1.2.2.7, tgI .u64 a.1.2.2.8, sc 87 2] 83 Md.own)
def W_G_pops_15 : MnB -> Option AO := fun (a : MnB) => some (AO.row [Value.int .u8 a.1.2.1.19.1, Value.int .u8 a.1.2.1.19.2, Value.int .u8 a.1.2.1.19.3, Value.int .u8
 a.1.2.1.19.4, Value.int .u8 a.1.2.1.19.5, Value.int .u8 a.1.2.1.19.6, Value.int .u8 a.1.2.1.19.7, Value.int .u8 a.1.2.1.19.8, sc 65 2, sc 66 2, sc 67 2, tgI .i64
 a.1.2.2.4, tgI .i64 a.1.2.2.5, tgI .i64 a.1.2.2.6, tgI .i64 a.1.2.2.7, tgI .u64 a.1.2.2.8, sc 68 2] 49 Md.own)
def W_G_pops_16 : MnB -> Option AO := fun (a : MnB) => some (AO.row [Value.int .u8 a.1.3.1.19.1, Value.int .u8 a.1.3.1.19.2, Value.int .u8 a.1.3.1.19.3, Value.int .u8
 a.1.3.1.19.4, Value.int .u8 a.1.3.1.19.5, Value.int .u8 a.1.3.1.19.6, Value.int .u8 a.1.3.1.19.7, Value.int .u8 a.1.3.1.19.8, sc 74 2, sc 75 2, sc 76 2, tgI .i64
 a.1.3.2.4, tgI .i64 a.1.3.2.5, tgI .i64 a.1.3.2.6, tgI .i64 a.1.3.2.7, tgI .u64 a.1.3.2.8, sc 77 2] 49 Md.own)
def W_G_pops_17 : MnB -> Option AO := fun (a : MnB) => some (AO.row [Zp 14 0, sc 94 2, sc 95 2, sc 96 2, tgI .i64 a.1.1.2.4, tgI .i64 a.1.1.2.5, tgI .i64 a.1.1.2.6, tgI
 .i64 a.1.1.2.7, tgI .u64 a.1.1.2.8, sc 97 2] 83 Md.own)
def W_G_pops_18 : MnB -> Option AO := fun (a : MnB) => some (AO.row [Zp 30 0, sc 103 2, sc 104 2, sc 105 2, tgI .i64 a.1.2.2.4, tgI .i64 a.1.2.2.5, tgI .i64 a.1.2.2.6,
 tgI .i64 a.1.2.2.7, tgI .u64 a.1.2.2.8, sc 106 2] 83 Md.own)
def W_G_pops_19 : MnB -> Option AO := fun (a : MnB) => some (AO.row [Zp 14 0, sc 113 2, sc 114 2, sc 115 2, tgI .i64 a.1.1.2.4, tgI .i64 a.1.1.2.5, tgI .i64 a.1.1.2.6,
 tgI .i64 a.1.1.2.7, tgI .u64 a.1.1.2.8, sc 116 2] 83 Md.own)
def W_G_pops_20 : MnB -> Option AO := fun (a : MnB) => some (AO.row [Value.int .u8 a.1.1.1.19.1, Value.int .u8 a.1.1.1.19.2, Value.int .u8 a.1.1.1.19.3, Value.int .u8
 a.1.1.1.19.4, Value.int .u8 a.1.1.1.19.5, Value.int .u8 a.1.1.1.19.6, Value.int .u8 a.1.1.1.19.7, Value.int .u8 a.1.1.1.19.8, sc 94 2, sc 95 2, sc 96 2, tgI .i64
 a.1.1.2.4, tgI .i64 a.1.1.2.5, tgI .i64 a.1.1.2.6, tgI .i64 a.1.1.2.7, tgI .u64 a.1.1.2.8, sc 97 2] 49 Md.own)
def W_G_pops_21 : MnB -> Option AO := fun (a : MnB) => some (AO.row [Value.int .u8 a.1.2.1.19.1, Value.int .u8 a.1.2.1.19.2, Value.int .u8 a.1.2.1.19.3, Value.int .u8
 a.1.2.1.19.4, Value.int .u8 a.1.2.1.19.5, Value.int .u8 a.1.2.1.19.6, Value.int .u8 a.1.2.1.19.7, Value.int .u8 a.1.2.1.19.8, sc 103 2, sc 104 2, sc 105 2, tgI .i64
 a.1.2.2.4, tgI .i64 a.1.2.2.5, tgI .i64 a.1.2.2.6, tgI .i64 a.1.2.2.7, tgI .u64 a.1.2.2.8, sc 106 2] 49 Md.own)
def W_G_pops_22 : MnB -> Option AO := fun (a : MnB) => some (AO.row [Zp 14 0, sc 112 2, sc 113 2, sc 114 2, tgI .i64 a.1.1.2.4, tgI .i64 a.1.1.2.5, tgI .i64 a.1.1.2.6,
 tgI .i64 a.1.1.2.7, tgI .u64 a.1.1.2.8, sc 115 2] 83 Md.own)
def W_G_pops_23 : MnB -> Option AO := fun (a : MnB) => some (AO.row [Zp 14 0, sc 26 2, sc 27 2, sc 28 2, tgI .i64 a.1.1.2.4, tgI .i64 a.1.1.2.5, tgI .i64 a.1.1.2.6, tgI
 .i64 a.1.1.2.7, tgI .u64 a.1.1.2.8, sc 29 2, Zp 30 0, sc 42 2, sc 43 2, sc 44 2, tgI .i64 a.1.2.2.4, tgI .i64 a.1.2.2.5, tgI .i64 a.1.2.2.6, tgI .i64 a.1.2.2.7,
 tgI .u64 a.1.2.2.8, sc 45 2, Zp 46 0, sc 58 2, sc 59 2, sc 60 2, tgI .i64 a.1.3.2.4, tgI .i64 a.1.3.2.5, tgI .i64 a.1.3.2.6, tgI .i64 a.1.3.2.7, tgI .u64
 a.1.3.2.8, sc 61 2] 83 (Md.grown 3))
def W_G_pops_24 : MnB -> Option AO := fun (a : MnB) => some (AO.row [Zp 30 0, sc 83 2, sc 84 2, sc 85 2, tgI .i64 a.1.2.2.4, tgI .i64 a.1.2.2.5, tgI .i64 a.1.2.2.6, tgI
 .i64 a.1.2.2.7, tgI .u64 a.1.2.2.8, sc 86 2] 83 Md.own)
def W_G_pops_25 : MnB -> Option AO := fun (a : MnB) => some (AO.row ([Zp 14 0, sc 26 2, sc 27 2, sc 28 2, tgI .i64 a.1.1.2.4, tgI .i64 a.1.1.2.5, tgI .i64 a.1.1.2.6, tgI
 .i64 a.1.1.2.7, tgI .u64 a.1.1.2.8, sc 29 2] ++ ([Zp 30 0, sc 42 2, sc 43 2, sc 44 2, tgI .i64 a.1.2.2.4, tgI .i64 a.1.2.2.5, tgI .i64 a.1.2.2.6, tgI .i64
 a.1.2.2.7, tgI .u64 a.1.2.2.8, sc 45 2] ++ ([Zp 46 0, sc 58 2, sc 59 2, sc 60 2, tgI .i64 a.1.3.2.4, tgI .i64 a.1.3.2.5, tgI .i64 a.1.3.2.6, tgI .i64 a.1.3.2.7,
 tgI .u64 a.1.3.2.8, sc 61 2] ++ ([Zp 62 0, sc 74 2, sc 75 2, sc 76 2, tgI .i64 a.1.4.2.4, tgI .i64 a.1.4.2.5, tgI .i64 a.1.4.2.6, tgI .i64 a.1.4.2.7, tgI .u64
 a.1.4.2.8, sc 77 2] ++ [])))) 83 (Md.grown 4))
def W_G_pops_26 : MnB -> Option AO := fun (a : MnB) => some (AO.row [Zp 46 0, sc 81 2, sc 82 2, sc 83 2, tgI .i64 a.1.3.2.4, tgI .i64 a.1.3.2.5, tgI .i64 a.1.3.2.6, tgI
 .i64 a.1.3.2.7, tgI .u64 a.1.3.2.8, sc 84 2] 83 Md.own)
def W_G_pops_27 : MnB -> Option AO := fun (a : MnB) => some (AO.row [Zp 62 0, sc 90 2, sc 91 2, sc 92 2, tgI .i64 a.1.4.2.4, tgI .i64 a.1.4.2.5, tgI .i64 a.1.4.2.6, tgI
 .i64 a.1.4.2.7, tgI .u64 a.1.4.2.8, sc 93 2] 83 Md.own)
def W_G_pops_28 : MnB -> Option AO := fun (a : MnB) => some (AO.row [Zp 46 0, sc 100 2, sc 101 2, sc 102 2, tgI .i64 a.1.3.2.4, tgI .i64 a.1.3.2.5, tgI .i64 a.1.3.2.6,
 tgI .i64 a.1.3.2.7, tgI .u64 a.1.3.2.8, sc 103 2] 83 Md.own)
def W_G_pops_29 : MnB -> Option AO := fun (a : MnB) => some (AO.row [Value.int .u8 a.1.3.1.19.1, Value.int .u8 a.1.3.1.19.2, Value.int .u8 a.1.3.1.19.3, Value.int .u8
 a.1.3.1.19.4, Value.int .u8 a.1.3.1.19.5, Value.int .u8 a.1.3.1.19.6, Value.int .u8 a.1.3.1.19.7, Value.int .u8 a.1.3.1.19.8, sc 81 2, sc 82 2, sc 83 2, tgI .i64
 a.1.3.2.4, tgI .i64 a.1.3.2.5, tgI .i64 a.1.3.2.6, tgI .i64 a.1.3.2.7, tgI .u64 a.1.3.2.8, sc 84 2] 49 Md.own)
def W_G_pops_30 : MnB -> Option AO := fun (a : MnB) => some (AO.row [Value.int .u8 a.1.4.1.19.1, Value.int .u8 a.1.4.1.19.2, Value.int .u8 a.1.4.1.19.3, Value.int .u8
 a.1.4.1.19.4, Value.int .u8 a.1.4.1.19.5, Value.int .u8 a.1.4.1.19.6, Value.int .u8 a.1.4.1.19.7, Value.int .u8 a.1.4.1.19.8, sc 90 2, sc 91 2, sc 92 2, tgI .i64
 a.1.4.2.4, tgI .i64 a.1.4.2.5, tgI .i64 a.1.4.2.6, tgI .i64 a.1.4.2.7, tgI .u64 a.1.4.2.8, sc 93 2] 49 Md.own)
def W_G_pops_31 : MnB -> Option AO := fun (a : MnB) => some (AO.row [Zp 30 0, sc 110 2, sc 111 2, sc 112 2, tgI .i64 a.1.2.2.4, tgI .i64 a.1.2.2.5, tgI .i64 a.1.2.2.6,
 tgI .i64 a.1.2.2.7, tgI .u64 a.1.2.2.8, sc 113 2] 83 Md.own)
def W_G_pops_32 : MnB -> Option AO := fun (a : MnB) => some (AO.row [Zp 46 0, sc 119 2, sc 120 2, sc 121 2, tgI .i64 a.1.3.2.4, tgI .i64 a.1.3.2.5, tgI .i64 a.1.3.2.6,
 tgI .i64 a.1.3.2.7, tgI .u64 a.1.3.2.8, sc 122 2] 83 Md.own)
def W_G_pops_33 : MnB -> Option AO := fun (a : MnB) => some (AO.row [Zp 30 0, sc 129 2, sc 130 2, sc 131 2, tgI .i64 a.1.2.2.4, tgI .i64 a.1.2.2.5, tgI .i64 a.1.2.2.6,
 tgI .i64 a.1.2.2.7, tgI .u64 a.1.2.2.8, sc 132 2] 83 Md.own)
def W_G_pops_34 : MnB -> Option AO := fun (a : MnB) => some (AO.row [Value.int .u8 a.1.2.1.19.1, Value.int .u8 a.1.2.1.19.2, Value.int .u8 a.1.2.1.19.3, Value.int .u8
 a.1.2.1.19.4, Value.int .u8 a.1.2.1.19.5, Value.int .u8 a.1.2.1.19.6, Value.int .u8 a.1.2.1.19.7, Value.int .u8 a.1.2.1.19.8, sc 110 2, sc 111 2, sc 112 2, tgI .i64
 a.1.2.2.4, tgI .i64 a.1.2.2.5, tgI .i64 a.1.2.2.6, tgI .i64 a.1.2.2.7, tgI .u64 a.1.2.2.8, sc 113 2] 49 Md.own)
def W_G_pops_35 : MnB -> Option AO := fun (a : MnB) => some (AO.row [Value.int .u8 a.1.3.1.19.1, Value.int .u8 a.1.3.1.19.2, Value.int .u8 a.1.3.1.19.3, Value.int .u8
 a.1.3.1.19.4, Value.int .u8 a.1.3.1.19.5, Value.int .u8 a.1.3.1.19.6, Value.int .u8 a.1.3.1.19.7, Value.int .u8 a.1.3.1.19.8, sc 119 2, sc 120 2, sc 121 2, tgI .i64
 a.1.3.2.4, tgI .i64 a.1.3.2.5, tgI .i64 a.1.3.2.6, tgI .i64 a.1.3.2.7, tgI .u64 a.1.3.2.8, sc 122 2] 49 Md.own)
def W_G_pops_36 : MnB -> Option AO := fun (a : MnB) => some (AO.row [Zp 14 0, sc 139 2, sc 140 2, sc 141 2, tgI .i64 a.1.1.2.4, tgI .i64 a.1.1.2.5, tgI .i64 a.1.1.2.6,
 tgI .i64 a.1.1.2.7, tgI .u64 a.1.1.2.8, sc 142 2] 83 Md.own)
def W_G_pops_37 : MnB -> Option AO := fun (a : MnB) => some (AO.row [Zp 30 0, sc 148 2, sc 149 2, sc 150 2, tgI .i64 a.1.2.2.4, tgI .i64 a.1.2.2.5, tgI .i64 a.1.2.2.6,
 tgI .i64 a.1.2.2.7, tgI .u64 a.1.2.2.8, sc 151 2] 83 Md.own)
def W_G_pops_38 : MnB -> Option AO := fun (a : MnB) => some (AO.row [Zp 14 0, sc 158 2, sc 159 2, sc 160 2, tgI .i64 a.1.1.2.4, tgI .i64 a.1.1.2.5, tgI .i64 a.1.1.2.6,
 tgI .i64 a.1.1.2.7, tgI .u64 a.1.1.2.8, sc 161 2] 83 Md.own)
def W_G_pops_39 : MnB -> Option AO := fun (a : MnB) => some (AO.row [Value.int .u8 a.1.1.1.19.1, Value.int .u8 a.1.1.1.19.2, Value.int .u8 a.1.1.1.19.3, Value.int .u8
 a.1.1.1.19.4, Value.int .u8 a.1.1.1.19.5, Value.int .u8 a.1.1.1.19.6, Value.int .u8 a.1.1.1.19.7, Value.int .u8 a.1.1.1.19.8, sc 139 2, sc 140 2, sc 141 2, tgI .i64
 a.1.1.2.4, tgI .i64 a.1.1.2.5, tgI .i64 a.1.1.2.6, tgI .i64 a.1.1.2.7, tgI .u64 a.1.1.2.8, sc 142 2] 49 Md.own)
def W_G_pops_40 : MnB -> Option AO := fun (a : MnB) => some (AO.row [Value.int .u8 a.1.2.1.19.1, Value.int .u8 a.1.2.1.19.2, Value.int .u8 a.1.2.1.19.3, Value.int .u8
 a.1.2.1.19.4, Value.int .u8 a.1.2.1.19.5, Value.int .u8 a.1.2.1.19.6, Value.int .u8 a.1.2.1.19.7, Value.int .u8 a.1.2.1.19.8, sc 148 2, sc 149 2, sc 150 2, tgI .i64
 a.1.2.2.4, tgI .i64 a.1.2.2.5, tgI .i64 a.1.2.2.6, tgI .i64 a.1.2.2.7, tgI .u64 a.1.2.2.8, sc 151 2] 49 Md.own)
def W_G_pops_41 : MnB -> Option AO := fun (a : MnB) => some (AO.row [Zp 14 0, sc 157 2, sc 158 2, sc 159 2, tgI .i64 a.1.1.2.4, tgI .i64 a.1.1.2.5, tgI .i64 a.1.1.2.6,
 tgI .i64 a.1.1.2.7, tgI .u64 a.1.1.2.8, sc 160 2] 83 Md.own)
def W_G_pops_42 : MnB -> Option AO := fun (a : MnB) => some (AO.row [Zp 30 0, sc 128 2, sc 129 2, sc 130 2, tgI .i64 a.1.2.2.4, tgI .i64 a.1.2.2.5, tgI .i64 a.1.2.2.6,
 tgI .i64 a.1.2.2.7, tgI .u64 a.1.2.2.8, sc 131 2] 83 Md.own)
def W_G_pops_43 : MnB -> Option AO := fun (a : MnB) => some (AO.row [Zp 14 0, sc 26 2, sc 27 2, sc 28 2, tgI .i64 a.1.1.2.4, tgI .i64 a.1.1.2.5, tgI .i64 a.1.1.2.6, tgI
 .i64 a.1.1.2.7, tgI .u64 a.1.1.2.8, sc 29 2, Zp 30 0, sc 42 2, sc 43 2, sc 44 2, tgI .i64 a.1.2.2.4, tgI .i64 a.1.2.2.5, tgI .i64 a.1.2.2.6, tgI .i64 a.1.2.2.7,
 tgI .u64 a.1.2.2.8, sc 45 2, Zp 46 0, sc 58 2, sc 59 2, sc 60 2, tgI .i64 a.1.3.2.4, tgI .i64 a.1.3.2.5, tgI .i64 a.1.3.2.6, tgI .i64 a.1.3.2.7, tgI .u64
 a.1.3.2.8, sc 61 2, Zp 62 0, sc 74 2, sc 75 2, sc 76 2, tgI .i64 a.1.4.2.4, tgI .i64 a.1.4.2.5, tgI .i64 a.1.4.2.6, tgI .i64 a.1.4.2.7, tgI .u64 a.1.4.2.8, sc 77
 2] 83 (Md.grown 4))
def W_G_pops_44 : MnB -> Option AO := fun (a : MnB) => some (AO.row [Zp 46 0, sc 99 2, sc 100 2, sc 101 2, tgI .i64 a.1.3.2.4, tgI .i64 a.1.3.2.5, tgI .i64 a.1.3.2.6,
 tgI .i64 a.1.3.2.7, tgI .u64 a.1.3.2.8, sc 102 2] 83 Md.own)
abbrev QYw5P_15 (a0 : RuA) : Prop := True /\ True /\ (0 = 0 /\ 2 = 2 /\ 2 = 2) /\ Z1 a0.19.1 /\ Z1 a0.19.2 /\ Z1 a0.19.3 /\ Z1 a0.19.4 /\ Z1 a0.19.5 /\ Z1 a0.19.6 /\ Z1 a0.19.7 /\ Z1 a0.19.8 /\
 0 = 0 /\ (0 = 0 /\ 1 = 1 /\ 1 = 1) /\ (0 = 0 /\ 2 = 2 /\ 2 = 2) /\ True
abbrev QYw5P_16 : Prop := True /\ FlatL [Value.int .i64 1, Value.int .i64 1] /\ [Value.int .i64 1, Value.int .i64 1] = [Value.int .i64 1, Value.int .i64 1]
abbrev QYw5P_10 (a0 : RuA) : Prop := True /\ (2 : Int) = 2 /\ (2 : Int) = 2 /\ (0 = 0 /\ 2 = 2 /\ 2 = 2) /\ (0 = 0 /\ 1 = 1 /\ 1 = 1) /\ (0 = 0 /\ Z1 a0.1 /\ Z1 a0.1) /\ (0 = 0 /\ Z1 a0.2 /\ Z1
 a0.2) /\ (0 = 0 /\ Z1 a0.3 /\ Z1 a0.3) /\ (0 = 0 /\ Z1 a0.4 /\ Z1 a0.4) /\ (0 = 0 /\ Z1 a0.5 /\ Z1 a0.5) /\ Z1 a0.6 /\ Z1 a0.7 /\ Z1 a0.8 /\ Z1 a0.9 /\ Z1 a0.10 /\ True
abbrev QYw5P_17 : Prop := True /\ FlatL [Value.int .i32 0, Value.int .i32 0] /\ [Value.int .i32 0, Value.int .i32 0] = [Value.int .i32 0, Value.int .i32 0]
abbrev QYw5P_1 (a0 : RuA) (a1 : PoA) : Prop := QYw5P_15 a0 /\ QYw5P_16 /\ QYw5P_10 a0 /\ QYw5P_17 /\ ZF a0.11 /\ ZF a0.12 /\ ZF a0.13 /\ ZF a0.14 /\ ZF a0.15 /\ ZF a0.16 /\ ZF a0.17 /\ ZF
 a0.18 /\ ZF a1.1 /\ ZF a1.2 /\ ZF a1.3 /\ ZF cells2 /\ True
abbrev QYw5P_9 (a0 : Int) (a1 : Int) (a2 : Int) (a3 : Int) : Prop := lwin [Value.iface 1000000007 (Value.int .i64 a0), Value.iface 1000000007 (Value.int .i64 a1)] 0 2 =
 [Value.iface 1000000007 (Value.int .i64 a2), Value.iface 1000000007 (Value.int .i64 a3)]
abbrev QYw5P_2 (a0 : Int) (a1 : Int) : Prop := True /\ (2 <= 2 /\ 0 + 2 <= List.length [Value.iface 1000000007 (Value.int .i64 a0), Value.iface 1000000007 (Value.int .i64 a1)] /\ FlatL
 [Value.iface 1000000007 (Value.int .i64 a0), Value.iface 1000000007 (Value.int .i64 a1)]) /\ ∃ (b0 b1 : Int), QYw5P_9 a0 a1 b0 b1
abbrev QYw5P_25 (a0 : RuA) (a1 : RuA) : Prop := True /\ True /\ (0 = 0 /\ 2 = 2 /\ 2 = 2) /\ a0.19.1 = a1.19.1 /\ a0.19.2 = a1.19.2 /\ a0.19.3 = a1.19.3 /\ a0.19.4 = a1.19.4 /\ a0.19.5 =
 a1.19.5 /\ a0.19.6 = a1.19.6 /\ a0.19.7 = a1.19.7 /\ a0.19.8 = a1.19.8 /\ 0 = 0 /\ (0 = 0 /\ 1 = 1 /\ 1 = 1) /\ (0 = 0 /\ 2 = 2 /\ 2 = 2) /\ True
abbrev QYw5P_22 (a0 : RuA) (a1 : RuA) : Prop := True /\ (2 : Int) = 2 /\ (2 : Int) = 2 /\ (0 = 0 /\ 2 = 2 /\ 2 = 2) /\ (0 = 0 /\ 1 = 1 /\ 1 = 1) /\ (0 = 0 /\ a0.1 = a1.1 /\ a0.1 = a1.1) /\ (0
 = 0 /\ a0.2 = a1.2 /\ a0.2 = a1.2) /\ (0 = 0 /\ a0.3 = a1.3 /\ a0.3 = a1.3) /\ (0 = 0 /\ a0.4 = a1.4 /\ a0.4 = a1.4) /\ (0 = 0 /\ a0.5 = a1.5 /\ a0.5 = a1.5) /\ a0.6 = a1.6 /\ a0.7 = a1.7 /\
 a0.8 = a1.8 /\ a0.9 = a1.9 /\ a0.10 = a1.10 /\ True
abbrev QYw5P_26 : Prop := ZF cells0 /\ ZF cells1 /\ ZF cells2 /\ ZF cells4 /\ ZF cells5 /\ ZF cells6 /\ ZF cells8 /\ ZF cells9 /\ ZF cells10 /\ True
abbrev QYw5P_3 (a0 : RuA) (a1 : RuA) (a2 : PoA) (a3 : PoA) : Prop := QYw5P_25 a0 a1 /\ QYw5P_16 /\ QYw5P_22 a0 a1 /\ QYw5P_17 /\ (True /\ FlatL a0.11 /\ a0.11 = a1.11) /\ (True /\ FlatL
 a0.12 /\ a0.12 = a1.12) /\ (True /\ FlatL a0.13 /\ a0.13 = a1.13) /\ (True /\ FlatL a0.14 /\ a0.14 = a1.14) /\ (True /\ FlatL a0.15 /\ a0.15 = a1.15) /\ (True /\ FlatL a0.16 /\ a0.16 = a1.16) /\
 (True /\ FlatL a0.17 /\ a0.17 = a1.17) /\ (True /\ FlatL a0.18 /\ a0.18 = a1.18) /\ (True /\ FlatL a2.1 /\ a2.1 = a3.1) /\ (True /\ FlatL a2.2 /\ a2.2 = a3.2) /\ (True /\ FlatL a2.3 /\ a2.3 =
 a3.3) /\ QYw5P_26
abbrev QYw5P_4 (a0 : Int) (a1 : Int) : Prop := ((false = false /\ 0 = 0 /\ 2 = 2 /\ 2 = 2) /\ True) /\ (True /\ FlatL [Value.iface 1000000007 (Value.int .i64 a0), Value.iface 1000000007
 (Value.int .i64 a1)] /\ [Value.iface 1000000007 (Value.int .i64 a0), Value.iface 1000000007 (Value.int .i64 a1)] = [Value.iface 1000000007 (Value.int .i64 a0), Value.iface
 1000000007 (Value.int .i64 a1)]) /\ True
abbrev QYw5P_5 (a0 : GvA) : Prop := QYw5P_15 a0.1 /\ QYw5P_16 /\ QYw5P_10 a0.1 /\ QYw5P_17 /\ ZF a0.1.11 /\ ZF a0.1.12 /\ ZF a0.1.13 /\ ZF a0.1.14 /\ ZF a0.1.15 /\ ZF a0.1.16 /\ ZF a0.1.17 /\
 ZF a0.1.18 /\ ZF a0.2.1 /\ ZF a0.2.2 /\ ZF a0.2.3 /\ QYw5P_26
abbrev QYw5P_18 (a0 : PoA) : Prop := 0 = 0 /\ (0 = 0 /\ 2 = 2 /\ 2 = 2) /\ (0 = 0 /\ 2 = 2 /\ 2 = 2) /\ (0 = 0 /\ 2 = 2 /\ 2 = 2) /\ Z1 a0.4 /\ Z1 a0.5 /\ Z1 a0.6 /\ Z1 a0.7 /\ Z1 a0.8 /\ (0 = 0
 /\ 2 = 2 /\ 2 = 2) /\ True
abbrev QYw5P_6 (a0 : PoA) (a1 : PoA) : Prop := 0 = 0 /\ (0 = 0 /\ 2 = 2 /\ 2 = 2) /\ (0 = 0 /\ 2 = 2 /\ 2 = 2) /\ (0 = 0 /\ 2 = 2 /\ 2 = 2) /\ Z1 a0.4 /\ Z1 a0.5 /\ Z1 a0.6 /\ Z1 a0.7 /\ Z1 a0.8
 /\ (0 = 0 /\ 2 = 2 /\ 2 = 2) /\ QYw5P_18 a1
abbrev QYw5P_7 (a0 : RuA) (a1 : PoA) (a2 : RuA) (a3 : PoA) : Prop := QYw5P_15 a0 /\ QYw5P_16 /\ QYw5P_10 a0 /\ QYw5P_17 /\ ZF a0.11 /\ ZF a0.12 /\ ZF a0.13 /\ ZF a0.14 /\ ZF a0.15 /\ ZF
 a0.16 /\ ZF a0.17 /\ ZF a0.18 /\ ZF a1.1 /\ ZF a1.2 /\ ZF a1.3 /\ QYw5P_1 a2 a3
abbrev QYw5P_8 (a0 : PoA) : Prop := (0 = 0 /\ 2 = 2 /\ 2 = 2) /\ (0 = 0 /\ 2 = 2 /\ 2 = 2) /\ (0 = 0 /\ 2 = 2 /\ 2 = 2) /\ Z1 a0.4 /\ Z1 a0.5 /\ Z1 a0.6 /\ Z1 a0.7 /\ Z1 a0.8 /\ True
abbrev QYw5P_11 (a0 : RuA) (a1 : RuA) (a2 : PoA) (a3 : PoA) (a4 : RuA) (a5 : RuA) (a6 : PoA) (a7 : PoA) : Prop := QYw5P_25 a0 a1 /\ QYw5P_16 /\ QYw5P_22 a0 a1 /\ QYw5P_17 /\ (True /\
 FlatL a0.11 /\ a0.11 = a1.11) /\ (True /\ FlatL a0.12 /\ a0.12 = a1.12) /\ (True /\ FlatL a0.13 /\ a0.13 = a1.13) /\ (True /\ FlatL a0.14 /\ a0.14 = a1.14) /\ (True /\ FlatL a0.15 /\ a0.15 =
 a1.15) /\ (True /\ FlatL a0.16 /\ a0.16 = a1.16) /\ (True /\ FlatL a0.17 /\ a0.17 = a1.17) /\ (True /\ FlatL a0.18 /\ a0.18 = a1.18) /\ (True /\ FlatL a2.1 /\ a2.1 = a3.1) /\ (True /\ FlatL a2.2
 /\ a2.2 = a3.2) /\ (True /\ FlatL a2.3 /\ a2.3 = a3.3) /\ QYw5P_3 a4 a5 a6 a7
abbrev QYw5P_12 (a0 : PoA) : Prop := True /\ ∃ (b0 b1 : Nat), (b0, b1) ∈ allG /\ PoA.mk a0.1 a0.2 a0.3 a0.4 a0.5 a0.6 a0.7 a0.8 = posG b0 b1
abbrev QYw5P_30 (a0 : Option AO) : Prop := True /\ True /\ True /\ True /\ True /\ (True /\ True) /\ (True /\ True) /\ (True /\ True) /\ (a0 = a0 /\ True) /\ True /\ True /\ True /\ True
abbrev QYw5P_13 (a0 : Option AO) (a1 : Option AO) (a2 : Option AO) : Prop := (True /\ True /\ True) /\ (True /\ True /\ True) /\ (True /\ True /\ True) /\ (a0 = a0 /\ a1 = a1 /\ True) /\
 QYw5P_30 a2
abbrev QYw5P_14 (a0 : Option AO) (a1 : Option AO) : Prop := True /\ True /\ True /\ (True /\ True) /\ (a0 = a0 /\ True) /\ (True /\ True) /\ (a1 = a1 /\ True) /\ True /\ True /\ True /\ True
abbrev QYw5P_19 (a0 : PoA) (a1 : PoA) (a2 : PoA) : Prop := 0 = 0 /\ (0 = 0 /\ 2 = 2 /\ 2 = 2) /\ (0 = 0 /\ 2 = 2 /\ 2 = 2) /\ (0 = 0 /\ 2 = 2 /\ 2 = 2) /\ Z1 a0.4 /\ Z1 a0.5 /\ Z1 a0.6 /\ Z1
 a0.7 /\ Z1 a0.8 /\ (0 = 0 /\ 2 = 2 /\ 2 = 2) /\ QYw5P_6 a1 a2
abbrev QYw5P_20 : Prop := True /\ True /\ True /\ True /\ True /\ True /\ True /\ True /\ True /\ True /\ True
abbrev QYw5P_21 (a0 : GvA) : Prop := isGx a0.1 a0.2 /\ smQ a0.3 /\ smQ a0.4
abbrev QYw5P_23 (a0 : PoA) : Prop := (QYw5P_8 a0 /\ True) /\ ZF a0.1 /\ ZF a0.2 /\ ZF a0.3 /\ True
abbrev QYw5P_24 (a0 : PoA) (a1 : PoA) : Prop := 0 = 0 /\ (0 = 0 /\ 2 = 2 /\ 2 = 2) /\ (0 = 0 /\ 2 = 2 /\ 2 = 2) /\ (0 = 0 /\ 2 = 2 /\ 2 = 2) /\ a0.4 = a1.4 /\ a0.5 = a1.5 /\ a0.6 = a1.6 /\ a0.7
 = a1.7 /\ a0.8 = a1.8 /\ (0 = 0 /\ 2 = 2 /\ 2 = 2) /\ True
abbrev QYw5P_27 (a0 : Int) (a1 : Int) (a2 : Int) : Prop := ((0 : Int) <= a0 /\ a0 < (256 : Int)) /\ ((-2147483648 : Int) <= a1 /\ a1 <= (2147483647 : Int)) /\ (0 : Int) <= a2 /\ a2 < (256 :
 Int)
abbrev QYw5P_41 : Prop := True /\ True /\ True /\ True /\ True /\ True /\ True /\ True /\ True /\ QYw5P_20
abbrev QYw5P_28 : Prop := (True /\ True /\ True /\ True /\ True /\ True /\ True /\ True /\ True /\ True /\ True /\ True /\ True /\ True /\ True /\ True /\ True /\ True /\ True /\ True /\ True /\ True /\
 QYw5P_41) /\ ∃ (_ : Unit), True /\ true = false /\ True
abbrev QYw5P_29 (a0 : RuA) (a1 : PoA) (a2 : Int) (a3 : Int) (a4 : EnM) (a5 : Int) (a6 : Int) : Prop := (∃ (b0 b1 : Nat), isG a0 a1 b0 b1 /\ turnG b0 b1 < (0 : Int) /\ payR b0 b1 (a2
 + a3) a4.1.1 a4.1.2) /\ a4.2 = a5 + a4.1.1 /\ a4.3 = a6 + a4.1.2
abbrev QYw5P_31 (a0 : Int) (a1 : Int) (a2 : GvA) (a3 : Int) (a4 : Int) : Prop := a0 ≠ 0 /\ (a1 % (5 : Int) <= (2 : Int) -> 0 < a0 /\ ∃ (b0 b1 : Nat), isG a2.1 a2.2 b0 b1 /\ actG b0 b1
 a1 a3 a4 = -a0)
abbrev QYw5P_32 (a0 : PyA) : Prop := 0 = 0 /\ (0 = 0 /\ 2 = 2 /\ 2 = 2) /\ (0 = 0 /\ 2 = 2 /\ 2 = 2) /\ (0 = 0 /\ 2 = 2 /\ 2 = 2) /\ Z1 a0.1.2.4 /\ Z1 a0.1.2.5 /\ Z1 a0.1.2.6 /\ Z1 a0.1.2.7 /\
 Z1 a0.1.2.8 /\ (0 = 0 /\ 2 = 2 /\ 2 = 2) /\ QYw5P_19 a0.2.2 a0.3.2 a0.4.2
abbrev QYw5P_33 (a0 : GvA) : Prop := 2 = 2 /\ Z1 a0.3 /\ Z1 a0.4 /\ True
abbrev QYw5P_34 (a0 : GvA) : Prop := True /\ Z1 a0.3 /\ Z1 a0.4 /\ True
abbrev QYw5P_35 (a0 : PoA) (a1 : PoA) (a2 : PoA) (a3 : Int) (a4 : Int) (a5 : Int) (a6 : Int) (a7 : Int) (a8 : Int) (a9 : RuA) : Prop := (0 = 0 /\ True) /\ (True /\ (0 = 0 /\ 3 = 3 /\ 3
 = 3) /\ True) /\ (3 = 3 /\ QYw5P_19 a0 a1 a2) /\ (2 = 2 /\ a3 = a3 /\ a4 = a4 /\ True) /\ (2 = 2 /\ a5 = a5 /\ a6 = a6 /\ True) /\ (2 = 2 /\ a7 = a7 /\ a8 = a8 /\ True) /\ (True /\ True) /\ (True /\
 True) /\ (True /\ True) /\ (True /\ True) /\ (True /\ True) /\ (True /\ True) /\ (True /\ True) /\ (True /\ True) /\ QYw5P_1 a9 a2
abbrev QYw5P_36 (a0 : Option AO) (a1 : Option AO) (a2 : Option  AO) : Prop := (True /\ True /\ True) /\ (True /\ True /\ True) /\ (True /\ True /\ True) /\ (a0 = a0 /\ a1 = a1 /\ True) /\ True
 /\ True /\ True /\ True /\ True /\ (True /\ True) /\ (True /\ True) /\ (True /\ True) /\ (a2 = a2 /\ True) /\ True /\ True /\ True /\ True
abbrev QYw5P_37 (a0 : MnA) (a1 : Int) (a2 : Int) : Prop := 0 = 0 /\ Value.slice a0.4 a0.5 a0.6 = Value.slice a0.4 a0.5 a0.6 /\ (↑a0.5 : Int) = (↑a0.5 : Int) /\ a1 = a2 /\ True
abbrev QYw5P_38 (a0 : GvA) (a1 : Int) (a2 : Int) (a3 : Int) (a4 : PoA) : Prop := ∃ (b0 b1 b2 : Nat), isG a0.1 a0.2 b0 b1 /\ actG b0 b1 a1 a2 a3 = (↑b2 : Int) /\ isG a0.1 a4 b0 b2
abbrev QYw5P_39 (a0 : Int) (a1 : Int) (a2 : Int) (a3 : Int) (a4 : Option Addr) (a5 : Nat) (a6 : Nat) : Prop := 0 = 0 /\ (a0 = a0 /\ a1 = a1 /\ a2 = a2 /\ a3 = a3 /\ Value.slice a4 a5 a6
 = Value.slice a4 a5 a6 /\ True) /\ True
abbrev QYw5P_40 (a0 : PoA) (a1 : Int) (a2 : Int) : Prop := (0 = 0 /\ True) /\ (True /\ (0 = 0 /\ 1 = 1 /\ 1 = 1) /\ True) /\ (1 = 1 /\ QYw5P_18 a0) /\ (2 = 2 /\ a1 = a1 /\ a2 = a2 /\ True) /\
 (True /\ True) /\ (True /\ True) /\ (True /\ True) /\ (True /\ True) /\ True
abbrev QYw5P_42 (a0 : PoA) (a1 : PoA) (a2 : PoA) (a3 : PoA) : Prop := 0 = 0 /\ (0 = 0 /\ 2 = 2 /\ 2 = 2) /\ (0 = 0 /\ 2 = 2 /\ 2 = 2) /\ (0 = 0 /\ 2 = 2 /\ 2 = 2) /\ a0.4 = a1.4 /\ a0.5 =
 a1.5 /\ a0.6 = a1.6 /\ a0.7 = a1.7 /\ a0.8 = a1.8 /\ (0 = 0 /\ 2 = 2 /\ 2 = 2) /\ QYw5P_24 a2 a3
abbrev QYw5P_43 (a0 : PoA) (a1 : PoA) (a2 : Int) (a3 : Int) (a4 : Int) (a5 : Int) (a6 : RuA) : Prop := (0 = 0 /\ True) /\ (True /\ (0 = 0 /\ 2 = 2 /\ 2 = 2) /\ True) /\ (2 = 2 /\ QYw5P_6
 a0 a1) /\ (2 = 2 /\ a2 = a2 /\ a3 = a3 /\ True) /\ (2 = 2 /\ a4 = a4 /\ a5 = a5 /\ True) /\ (True /\ True) /\ (True /\ True) /\ (True /\ True) /\ (True /\ True) /\ QYw5P_1 a6 a1
abbrev QYw5P_44 (a0 : GvA) : Prop := (True /\ True) /\ (True /\ True) /\ (True /\ True) /\ (True /\ True) /\ (True /\ True) /\ (True /\ True) /\ (True /\ True) /\ (True /\ True) /\ QYw5P_5 a0
abbrev QYw5P_45 (a0 : RuA) (a1 : PoA) (a2 : Int) (a3 : Int) (a4 : Int) (a5 : Int) : Prop := (∀ (b0 : EnM), QYw5P_29 a0 a1 a2 a3 b0 a4 a5 -> ∃ (_ : Unit), True /\ true = false /\ True)
 /\ (∀ (_ : Unit), (∃ (b1 b2 : Nat), isG a0 a1 b1 b2 /\ (0 : Int) <= turnG b1 b2) -> ∃ (_ : Unit), True /\ true = true /\ True) /\ True
abbrev QYw5P_46 : Prop := (0 = 0 /\ 2 = 2 /\ 2 = 2) /\ (0 = 0 /\ 2 = 2 /\ 2 = 2) /\ True
def TA1 (u0 : Int) (u1 : MnA) (u2 : PoA) (u3 : Int) (u4 : Int) (u5 : RuA) : Prop := ∀ (b0 : Int), b0 = IntKind.wrap .i64 (u0 + (1 : Int)) -> ∃ (b1 : MnB), (((0 : Int) <= b1.2 /\ b1.2 <= (↑u1.5 : Int)) /\ QYw5P_21 b1.1.1 /\ b1.1.1.3 + b1.1.1.4 = u1.2 + u1.3) /\ Int.toNat
 ((↑u1.5 : Int) - b1.2) < Int.toNat ((↑u1.5 : Int) - u0) /\ QYw5P_37 u1 b1.2 b0 /\ ((True /\ (0 = 0 /\ 1 = 1 /\ 1 = 1) /\ True) /\ (1 = 1 /\ QYw5P_24 b1.1.1.2 u2) /\ (2 = 2 /\ b1.1.1.3 = u3 /\
 b1.1.1.4 = u4 /\ True) /\ QYw5P_3 b1.1.1.1 u5 b1.1.1.2 u2) /\ True
set_option maxHeartbeats 3200000 in
def TA2 (u0 : Int) (u1 : MnA) (u2 : PoA) (u3 : PoA) (u4 : Int) (u5 : Int) (u6 : Int) (u7 : Int) (u8 : RuA) (u9 : RuA) : Prop := ∀ (b0 : Int), b0 = IntKind.wrap .i64 (u0 + (1 : Int)) -> ∃ (b1 : MnB), (((0 : Int) <= b1.2 /\ b1.2 <= (↑u1.5 : Int)) /\ (QYw5P_21 b1.1.1 /\ QYw5P_21 b1.1.2) /\ b1.1.1.3 + b1.1.1.4 +
 (b1.1.2.3 + b1.1.2.4) = u1.2 + u1.3) /\ Int.toNat ((↑u1.5 : Int) - b1.2) < Int.toNat ((↑u1.5 : Int) - u0) /\ QYw5P_37 u1 b1.2 b0 /\ ((True /\ (0 = 0 /\ 2 = 2 /\ 2 = 2) /\ True) /\ (2 = 2 /\
 QYw5P_42 b1.1.1.2 u2 b1.1.2.2 u3) /\ (2 = 2 /\ b1.1.1.3 = u4 /\ b1.1.1.4 = u5 /\ True) /\ (2 = 2 /\ b1.1.2.3 = u6 /\ b1.1.2.4 = u7 /\ True) /\ QYw5P_11 b1.1.1.1 u8 b1.1.1.2 u2 b1.1.2.1 u9
 b1.1.2.2 u3) /\ True
set_option maxHeartbeats 3200000 in
def TA3 (u0 : Int) (u1 : MnA) (u2 : PoA) (u3 : PoA) (u4 : PoA) (u5 : Int) (u6 : Int) (u7 : Int) (u8 : Int) (u9 : Int) (u10 : Int) (u11 : RuA) (u12 : RuA) (u13 : RuA) : Prop := ∀ (b0 : Int), b0 = IntKind.wrap .i64 (u0 + (1 : Int)) -> ∃ (b1 : MnB), (((0 : Int) <= b1.2 /\ b1.2 <= (↑u1.5 : Int)) /\ (QYw5P_21 b1.1.1 /\ QYw5P_21 b1.1.2 /\ QYw5P_21 b1.1.3) /\ b1.1.1.3
 + b1.1.1.4 + (b1.1.2.3 + b1.1.2.4) + (b1.1.3.3 + b1.1.3.4) = u1.2 + u1.3) /\ Int.toNat ((↑u1.5 : Int) - b1.2) < Int.toNat ((↑u1.5 : Int) - u0) /\ QYw5P_37 u1 b1.2 b0 /\ ((True /\ (0 =
 0 /\ 3 = 3 /\ 3 = 3) /\ True) /\ (3 = 3 /\ 0 = 0 /\ (0 = 0 /\ 2 = 2 /\ 2 = 2) /\ (0 = 0 /\ 2 = 2 /\ 2 = 2) /\ (0 = 0 /\ 2 = 2 /\ 2 = 2) /\ b1.1.1.2.4 = u2.4 /\ b1.1.1.2.5 = u2.5 /\ b1.1.1.2.6 =
 u2.6 /\ b1.1.1.2.7 = u2.7 /\ b1.1.1.2.8 = u2.8 /\ (0 = 0 /\ 2 = 2 /\ 2 = 2) /\ QYw5P_42 b1.1.2.2 u3 b1.1.3.2 u4) /\ (2 = 2 /\ b1.1.1.3 = u5 /\ b1.1.1.4 = u6 /\ True) /\ (2 = 2 /\ b1.1.2.3 = u7
 /\ b1.1.2.4 = u8 /\ True) /\ (2 = 2 /\ b1.1.3.3 = u9 /\ b1.1.3.4 = u10 /\ True) /\ QYw5P_25 b1.1.1.1 u11 /\ QYw5P_16 /\ QYw5P_22 b1.1.1.1 u11 /\ QYw5P_17 /\ (True /\ FlatL b1.1.1.1.11 /\
 b1.1.1.1.11 = u11.11) /\ (True /\ FlatL b1.1.1.1.12 /\ b1.1.1.1.12 = u11.12) /\ (True /\ FlatL b1.1.1.1.13 /\ b1.1.1.1.13 = u11.13) /\ (True /\ FlatL b1.1.1.1.14 /\ b1.1.1.1.14 = u11.14) /\
 (True /\ FlatL b1.1.1.1.15 /\ b1.1.1.1.15 = u11.15) /\ (True /\ FlatL b1.1.1.1.16 /\ b1.1.1.1.16 = u11.16) /\ (True /\ FlatL b1.1.1.1.17 /\ b1.1.1.1.17 = u11.17) /\ (True /\ FlatL
 b1.1.1.1.18 /\ b1.1.1.1.18 = u11.18) /\ (True /\ FlatL b1.1.1.2.1 /\ b1.1.1.2.1 = u2.1) /\ (True /\ FlatL b1.1.1.2.2 /\ b1.1.1.2.2 = u2.2) /\ (True /\ FlatL b1.1.1.2.3 /\ b1.1.1.2.3 = u2.3)
 /\ QYw5P_11 b1.1.2.1 u12 b1.1.2.2 u3 b1.1.3.1 u13 b1.1.3.2 u4) /\ True
set_option maxHeartbeats 3200000 in
def TA4 (u0 : Int) (u1 : MnA) (u2 : PoA) (u3 : PoA) (u4 : PoA) (u5 : PoA) (u6 : Int) (u7 : Int) (u8 : Int) (u9 : Int) (u10 : Int) (u11 : Int) (u12 : Int) (u13 : Int) (u14 : RuA)
 (u15 : RuA) (u16 : RuA) (u17 : RuA) : Prop := ∀ (b0 : Int), b0 = IntKind.wrap .i64 (u0 + (1 : Int)) -> ∃ (b1 : MnB), (((0 : Int) <= b1.2 /\ b1.2 <= (↑u1.5 : Int)) /\ ((isGx b1.1.1.1
 b1.1.1.2 /\ smQ b1.1.1.3 /\ smQ b1.1.1.4) /\ (isGx b1.1.2.1 b1.1.2.2 /\ smQ b1.1.2.3 /\ smQ b1.1.2.4) /\ (isGx b1.1.3.1 b1.1.3.2 /\ smQ b1.1.3.3 /\ smQ b1.1.3.4) /\ isGx b1.1.4.1 b1.1.4.2 /\
 smQ b1.1.4.3 /\ smQ b1.1.4.4) /\ b1.1.1.3 + b1.1.1.4 + (b1.1.2.3 + b1.1.2.4) + (b1.1.3.3 + b1.1.3.4) + (b1.1.4.3 + b1.1.4.4) = u1.2 + u1.3) /\ Int.toNat ((↑u1.5 : Int) - b1.2) <
 Int.toNat ((↑u1.5 : Int) - u0) /\ (0 = 0 /\ Value.slice u1.4 u1.5 u1.6 = Value.slice u1.4 u1.5 u1.6 /\ (↑u1.5 : Int) = (↑u1.5 : Int) /\ b1.2 = b0 /\ True) /\ ((True /\ (0 = 0 /\ 4 = 4 /\ 4
 = 4) /\ True) /\ (4 = 4 /\ 0 = 0 /\ (0 = 0 /\ 2 = 2 /\ 2 = 2) /\ (0 = 0 /\ 2 = 2 /\ 2 = 2) /\ (0 = 0 /\ 2 = 2 /\ 2 = 2) /\ b1.1.1.2.4 = u2.4 /\ b1.1.1.2.5 = u2.5 /\ b1.1.1.2.6 = u2.6 /\ b1.1.1.2.7
 = u2.7 /\ b1.1.1.2.8 = u2.8 /\ (0 = 0 /\ 2 = 2 /\ 2 = 2) /\ 0 = 0 /\ (0 = 0 /\ 2 = 2 /\ 2 = 2) /\ (0 = 0 /\ 2 = 2 /\ 2 = 2) /\ (0 = 0 /\ 2 = 2 /\ 2 = 2) /\ b1.1.2.2.4 = u3.4 /\ b1.1.2.2.5 = u3.5 /\
 b1.1.2.2.6 = u3.6 /\ b1.1.2.2.7 = u3.7 /\ b1.1.2.2.8 = u3.8 /\ (0 = 0 /\ 2 = 2 /\ 2 = 2) /\ 0 = 0 /\ (0 = 0 /\ 2 = 2 /\ 2 = 2) /\ (0 = 0 /\ 2 = 2 /\ 2 = 2) /\ (0 = 0 /\ 2 = 2 /\ 2 = 2) /\
 b1.1.3.2.4 = u4.4 /\ b1.1.3.2.5 = u4.5 /\ b1.1.3.2.6 = u4.6 /\ b1.1.3.2.7 = u4.7 /\ b1.1.3.2.8 = u4.8 /\ (0 = 0 /\ 2 = 2 /\ 2 = 2) /\ 0 = 0 /\ (0 = 0 /\ 2 = 2 /\ 2 = 2) /\ (0 = 0 /\ 2 = 2 /\ 2 =
 2) /\ (0 = 0 /\ 2 = 2 /\ 2 = 2) /\ b1.1.4.2.4 = u5.4 /\ b1.1.4.2.5 = u5.5 /\ b1.1.4.2.6 = u5.6 /\ b1.1.4.2.7 = u5.7 /\ b1.1.4.2.8 = u5.8 /\ (0 = 0 /\ 2 = 2 /\ 2 = 2) /\ True) /\ (2 = 2 /\
 b1.1.1.3 = u6 /\ b1.1.1.4 = u7 /\ True) /\ (2 = 2 /\ b1.1.2.3 = u8 /\ b1.1.2.4 = u9 /\ True) /\ (2 = 2 /\ b1.1.3.3 = u10 /\ b1.1.3.4 = u11 /\ True) /\ (2 = 2 /\ b1.1.4.3 = u12 /\ b1.1.4.4 = u13
 /\ True) /\ (True /\ True /\ (0 = 0 /\ 2 = 2 /\ 2 = 2) /\ b1.1.1.1.19.1 = u14.19.1 /\ b1.1.1.1.19.2 = u14.19.2 /\ b1.1.1.1.19.3 = u14.19.3 /\ b1.1.1.1.19.4 = u14.19.4 /\ b1.1.1.1.19.5 =
 u14.19.5 /\ b1.1.1.1.19.6 = u14.19.6 /\ b1.1.1.1.19.7 = u14.19.7 /\ b1.1.1.1.19.8 = u14.19.8 /\ 0 = 0 /\ (0 = 0 /\ 1 = 1 /\ 1 = 1) /\ (0 = 0 /\ 2 = 2 /\ 2 = 2) /\ True) /\ (True /\ FlatL
 [Value.int .i64 1, Value.int .i64 1] /\ [Value.int .i64 1, Value.int .i64 1] = [Value.int .i64 1, Value.int .i64 1]) /\ (True /\ (2 : Int) = 2 /\ (2 : Int) = 2 /\ (0 = 0 /\ 2 = 2 /\ 2 =
 2) /\ (0 = 0 /\ 1 = 1 /\ 1 = 1) /\ (0 = 0 /\ b1.1.1.1.1 = u14.1 /\ b1.1.1.1.1 = u14.1) /\ (0 = 0 /\ b1.1.1.1.2 = u14.2 /\ b1.1.1.1.2 = u14.2) /\ (0 = 0 /\ b1.1.1.1.3 = u14.3 /\ b1.1.1.1.3 =
 u14.3) /\ (0 = 0 /\ b1.1.1.1.4 = u14.4 /\ b1.1.1.1.4 = u14.4) /\ (0 = 0 /\ b1.1.1.1.5 = u14.5 /\ b1.1.1.1.5 = u14.5) /\ b1.1.1.1.6 = u14.6 /\ b1.1.1.1.7 = u14.7 /\ b1.1.1.1.8 = u14.8 /\
 b1.1.1.1.9 = u14.9 /\ b1.1.1.1.10 = u14.10 /\ True) /\ (True /\ FlatL [Value.int .i32 0, Value.int .i32 0] /\ [Value.int .i32 0, Value.int .i32 0] = [Value.int .i32 0, Value.int .i32
 0]) /\ (True /\ FlatL b1.1.1.1.11 /\ b1.1.1.1.11 = u14.11) /\ (True /\ FlatL b1.1.1.1.12 /\ b1.1.1.1.12 = u14.12) /\ (True /\ FlatL b1.1.1.1.13 /\ b1.1.1.1.13 = u14.13) /\ (True /\ FlatL
 b1.1.1.1.14 /\ b1.1.1.1.14 = u14.14) /\ (True /\ FlatL b1.1.1.1.15 /\ b1.1.1.1.15 = u14.15) /\ (True /\ FlatL b1.1.1.1.16 /\ b1.1.1.1.16 = u14.16) /\ (True /\ FlatL b1.1.1.1.17 /\
 b1.1.1.1.17 = u14.17) /\ (True /\ FlatL b1.1.1.1.18 /\ b1.1.1.1.18 = u14.18) /\ (True /\ FlatL b1.1.1.2.1 /\ b1.1.1.2.1 = u2.1) /\ (True /\ FlatL b1.1.1.2.2 /\ b1.1.1.2.2 = u2.2) /\ (True /\
 FlatL b1.1.1.2.3 /\ b1.1.1.2.3 = u2.3) /\ (True /\ True /\ (0 = 0 /\ 2 = 2 /\ 2 = 2) /\ b1.1.2.1.19.1 = u15.19.1 /\ b1.1.2.1.19.2 = u15.19.2 /\ b1.1.2.1.19.3 = u15.19.3 /\ b1.1.2.1.19.4 =
 u15.19.4 /\ b1.1.2.1.19.5 = u15.19.5 /\ b1.1.2.1.19.6 = u15.19.6 /\ b1.1.2.1.19.7 = u15.19.7 /\ b1.1.2.1.19.8 = u15.19.8 /\ 0 = 0 /\ (0 = 0 /\ 1 = 1 /\ 1 = 1) /\ (0 = 0 /\ 2 = 2 /\ 2 = 2) /\
 True) /\ (True /\ FlatL [Value.int .i64 1, Value.int .i64 1] /\ [Value.int .i64 1, Value.int .i64 1] = [Value.int .i64 1, Value.int .i64 1]) /\ (True /\ (2 : Int) = 2 /\ (2 : Int) = 2 /\
 (0 = 0 /\ 2 = 2 /\ 2 = 2) /\ (0 = 0 /\ 1 = 1 /\ 1 = 1) /\ (0 = 0 /\ b1.1.2.1.1 = u15.1 /\ b1.1.2.1.1 = u15.1) /\ (0 = 0 /\ b1.1.2.1.2 = u15.2 /\ b1.1.2.1.2 = u15.2) /\ (0 = 0 /\ b1.1.2.1.3 =
 u15.3 /\ b1.1.2.1.3 = u15.3) /\ (0 = 0 /\ b1.1.2.1.4 = u15.4 /\ b1.1.2.1.4 = u15.4) /\ (0 = 0 /\ b1.1.2.1.5 = u15.5 /\ b1.1.2.1.5 = u15.5) /\ b1.1.2.1.6 = u15.6 /\ b1.1.2.1.7 = u15.7 /\
 b1.1.2.1.8 = u15.8 /\ b1.1.2.1.9 = u15.9 /\ b1.1.2.1.10 = u15.10 /\ True) /\ (True /\ FlatL [Value.int .i32 0, Value.int .i32 0] /\ [Value.int .i32 0, Value.int .i32 0] = [Value.int .i32
 0, Value.int .i32 0]) /\ (True /\ FlatL b1.1.2.1.11 /\ b1.1.2.1.11 = u15.11) /\ (True /\ FlatL b1.1.2.1.12 /\ b1.1.2.1.12 = u15.12) /\ (True /\ FlatL b1.1.2.1.13 /\ b1.1.2.1.13 = u15.13) /\
 (True /\ FlatL b1.1.2.1.14 /\ b1.1.2.1.14 = u15.14) /\ (True /\ FlatL b1.1.2.1.15 /\ b1.1.2.1.15 = u15.15) /\ (True /\ FlatL b1.1.2.1.16 /\ b1.1.2.1.16 = u15.16) /\ (True /\ FlatL
 b1.1.2.1.17 /\ b1.1.2.1.17 = u15.17) /\ (True /\ FlatL b1.1.2.1.18 /\ b1.1.2.1.18 = u15.18) /\ (True /\ FlatL b1.1.2.2.1 /\ b1.1.2.2.1 = u3.1) /\ (True /\ FlatL b1.1.2.2.2 /\ b1.1.2.2.2 =
 u3.2) /\ (True /\ FlatL b1.1.2.2.3 /\ b1.1.2.2.3 = u3.3) /\ (True /\ True /\ (0 = 0 /\ 2 = 2 /\ 2 = 2) /\ b1.1.3.1.19.1 = u16.19.1 /\ b1.1.3.1.19.2 = u16.19.2 /\ b1.1.3.1.19.3 = u16.19.3 /\
 b1.1.3.1.19.4 = u16.19.4 /\ b1.1.3.1.19.5 = u16.19.5 /\ b1.1.3.1.19.6 = u16.19.6 /\ b1.1.3.1.19.7 = u16.19.7 /\ b1.1.3.1.19.8 = u16.19.8 /\ 0 = 0 /\ (0 = 0 /\ 1 = 1 /\ 1 = 1) /\ (0 = 0 /\ 2
 = 2 /\ 2 = 2) /\ True) /\ (True /\ FlatL [Value.int .i64 1, Value.int .i64 1] /\ [Value.int .i64 1, Value.int .i64 1] = [Value.int .i64 1, Value.int .i64 1]) /\ (True /\ (2 : Int) = 2 /\
 (2 : Int) = 2 /\ (0 = 0 /\ 2 = 2 /\ 2 = 2) /\ (0 = 0 /\ 1 = 1 /\ 1 = 1) /\ (0 = 0 /\ b1.1.3.1.1 = u16.1 /\ b1.1.3.1.1 = u16.1) /\ (0 = 0 /\ b1.1.3.1.2 = u16.2 /\ b1.1.3.1.2 = u16.2) /\ (0 = 0 /\
 b1.1.3.1.3 = u16.3 /\ b1.1.3.1.3 = u16.3) /\ (0 = 0 /\ b1.1.3.1.4 = u16.4 /\ b1.1.3.1.4 = u16.4) /\ (0 = 0 /\ b1.1.3.1.5 = u16.5 /\ b1.1.3.1.5 = u16.5) /\ b1.1.3.1.6 = u16.6 /\ b1.1.3.1.7 =
 u16.7 /\ b1.1.3.1.8 = u16.8 /\ b1.1.3.1.9 = u16.9 /\ b1.1.3.1.10 = u16.10 /\ True) /\ (True /\ FlatL [Value.int .i32 0, Value.int .i32 0] /\ [Value.int .i32 0, Value.int .i32 0] =
 [Value.int .i32 0, Value.int .i32 0]) /\ (True /\ FlatL b1.1.3.1.11 /\ b1.1.3.1.11 = u16.11) /\ (True /\ FlatL b1.1.3.1.12 /\ b1.1.3.1.12 = u16.12) /\ (True /\ FlatL b1.1.3.1.13 /\
 b1.1.3.1.13 = u16.13) /\ (True /\ FlatL b1.1.3.1.14 /\ b1.1.3.1.14 = u16.14) /\ (True /\ FlatL b1.1.3.1.15 /\ b1.1.3.1.15 = u16.15) /\ (True /\ FlatL b1.1.3.1.16 /\ b1.1.3.1.16 = u16.16) /\
 (True /\ FlatL b1.1.3.1.17 /\ b1.1.3.1.17 = u16.17) /\ (True /\ FlatL b1.1.3.1.18 /\ b1.1.3.1.18 = u16.18) /\ (True /\ FlatL b1.1.3.2.1 /\ b1.1.3.2.1 = u4.1) /\ (True /\ FlatL b1.1.3.2.2 /\
 b1.1.3.2.2 = u4.2) /\ (True /\ FlatL b1.1.3.2.3 /\ b1.1.3.2.3 = u4.3) /\ (True /\ True /\ (0 = 0 /\ 2 = 2 /\ 2 = 2) /\ b1.1.4.1.19.1 = u17.19.1 /\ b1.1.4.1.19.2 = u17.19.2 /\ b1.1.4.1.19.3 =
 u17.19.3 /\ b1.1.4.1.19.4 = u17.19.4 /\ b1.1.4.1.19.5 = u17.19.5 /\ b1.1.4.1.19.6 = u17.19.6 /\ b1.1.4.1.19.7 = u17.19.7 /\ b1.1.4.1.19.8 = u17.19.8 /\ 0 = 0 /\ (0 = 0 /\ 1 = 1 /\ 1 = 1) /\
 (0 = 0 /\ 2 = 2 /\ 2 = 2) /\ True) /\ (True /\ FlatL [Value.int .i64 1, Value.int .i64 1] /\ [Value.int .i64 1, Value.int .i64 1] = [Value.int .i64 1, Value.int .i64 1]) /\ (True /\ (2 :
 Int) = 2 /\ (2 : Int) = 2 /\ (0 = 0 /\ 2 = 2 /\ 2 = 2) /\ (0 = 0 /\ 1 = 1 /\ 1 = 1) /\ (0 = 0 /\ b1.1.4.1.1 = u17.1 /\ b1.1.4.1.1 = u17.1) /\ (0 = 0 /\ b1.1.4.1.2 = u17.2 /\ b1.1.4.1.2 = u17.2)
 /\ (0 = 0 /\ b1.1.4.1.3 = u17.3 /\ b1.1.4.1.3 = u17.3) /\ (0 = 0 /\ b1.1.4.1.4 = u17.4 /\ b1.1.4.1.4 = u17.4) /\ (0 = 0 /\ b1.1.4.1.5 = u17.5 /\ b1.1.4.1.5 = u17.5) /\ b1.1.4.1.6 = u17.6 /\
 b1.1.4.1.7 = u17.7 /\ b1.1.4.1.8 = u17.8 /\ b1.1.4.1.9 = u17.9 /\ b1.1.4.1.10 = u17.10 /\ True) /\ (True /\ FlatL [Value.int .i32 0, Value.int .i32 0] /\ [Value.int .i32 0, Value.int .i32
 0] = [Value.int .i32 0, Value.int .i32 0]) /\ (True /\ FlatL b1.1.4.1.11 /\ b1.1.4.1.11 = u17.11) /\ (True /\ FlatL b1.1.4.1.12 /\ b1.1.4.1.12 = u17.12) /\ (True /\ FlatL b1.1.4.1.13 /\
 b1.1.4.1.13 = u17.13) /\ (True /\ FlatL b1.1.4.1.14 /\ b1.1.4.1.14 = u17.14) /\ (True /\ FlatL b1.1.4.1.15 /\ b1.1.4.1.15 = u17.15) /\ (True /\ FlatL b1.1.4.1.16 /\ b1.1.4.1.16 = u17.16) /\
 (True /\ FlatL b1.1.4.1.17 /\ b1.1.4.1.17 = u17.17) /\ (True /\ FlatL b1.1.4.1.18 /\ b1.1.4.1.18 = u17.18) /\ (True /\ FlatL b1.1.4.2.1 /\ b1.1.4.2.1 = u5.1) /\ (True /\ FlatL b1.1.4.2.2 /\
 b1.1.4.2.2 = u5.2) /\ (True /\ FlatL b1.1.4.2.3 /\ b1.1.4.2.3 = u5.3) /\ ZF cells0 /\ ZF cells1 /\ ZF cells2 /\ ZF cells4 /\ ZF cells5 /\ ZF cells6 /\ ZF cells8 /\ ZF cells9 /\ ZF cells10 /\
 True) /\ True
set_option maxHeartbeats 3200000 in
def RL1 (u0 : PoA) (u1 : Int) (u2 : Int) (u3 : RuA) : Prop := (True /\ True) /\ QYw5P_40 u0 u1 u2 /\ (∀ (_ : Unit), True -> (True /\ True /\ QYw5P_20) /\ (True /\ (∃ (b1 b2 : Nat), isG u3 u0 b1 b2)) /\ ((0 = 0 /\ QYw5P_8 u0 /\ True) /\ QYw5P_1 u3 u0) /\
 (∀ (b1 : TnB), (∃ (b2 b3 : Nat), isG u3 u0 b2 b3 /\ b1.1 = turnG b2 b3) -> QYw5P_20 /\ (b1.1 = (-1 : Int) -> (∃ (_ : Unit), True /\ true = true /\ True)) /\ (¬(b1.1 = (-1 : Int)) -> (True
 /\ (smQ u1 /\ smQ u2) /\ True) /\ QYw5P_40 u0 u1 u2 /\ (∀ (_ : Unit), True -> (True /\ isGx u3 u0 /\ smQ u1 /\ smQ u2) /\ ((0 = 0 /\ True) /\ (True /\ (0 = 0 /\ 1 = 1 /\ 1 = 1) /\ True) /\ (True /\
 QYw5P_18 u0) /\ (True /\ u1 = u1 /\ u2 = u2 /\ True) /\ QYw5P_1 u3 u0) /\ (∀ (b3 : XyB), PayD 0 (PyA.mk (GvA.mk u3 u0 u1 u2) (GvA.mk u3 u0 u1 u2) (GvA.mk u3 u0 u1 u2) (GvA.mk u3 u0 u1
 u2)) b3 -> (True /\ sumX 1 (StA.mk (OuA.mk (0 : Int) (0 : Int) (0 : Int) (0 : Int) (0 : Int) (0 : Int) (0 : Int)) (OuA.mk (0 : Int) (0 : Int) (0 : Int) (0 : Int) (0 : Int) (0 : Int)
 (0 : Int)) (OuA.mk (0 : Int) (0 : Int) (0 : Int) (0 : Int) (0 : Int) (0 : Int) (0 : Int)) u3 u0 u1 u2) = b3.1 /\ sumY 1 (StA.mk (OuA.mk (0 : Int) (0 : Int) (0 : Int) (0 : Int) (0 :
 Int) (0 : Int) (0 : Int)) (OuA.mk (0 : Int) (0 : Int) (0 : Int) (0 : Int) (0 : Int) (0 : Int) (0 : Int)) (OuA.mk (0 : Int) (0 : Int) (0 : Int) (0 : Int) (0 : Int) (0 : Int) (0 :
 Int)) u3 u0 u1 u2) = b3.2) /\ (QYw5P_46 /\ (True /\ sumX 1 (StA.mk (OuA.mk (0 : Int) (0 : Int) (0 : Int) (0 : Int) (0 : Int) (0 : Int) (0 : Int)) (OuA.mk (0 : Int) (0 : Int) (0 : Int)
 (0 : Int) (0 : Int) (0 : Int) (0 : Int)) (OuA.mk (0 : Int) (0 : Int) (0 : Int) (0 : Int) (0 : Int) (0 : Int) (0 : Int)) u3 u0 u1 u2) = sumX 1 (StA.mk (OuA.mk (0 : Int) (0 : Int) (0
 : Int) (0 : Int) (0 : Int) (0 : Int) (0 : Int)) (OuA.mk (0 : Int) (0 : Int) (0 : Int) (0 : Int) (0 : Int) (0 : Int) (0 : Int)) (OuA.mk (0 : Int) (0 : Int) (0 : Int) (0 : Int) (0 :
 Int) (0 : Int) (0 : Int)) u3 u0 u1 u2) /\ sumY 1 (StA.mk (OuA.mk (0 : Int) (0 : Int) (0 : Int) (0 : Int) (0 : Int) (0 : Int) (0 : Int)) (OuA.mk (0 : Int) (0 : Int) (0 : Int) (0 :
 Int) (0 : Int) (0 : Int) (0 : Int)) (OuA.mk (0 : Int) (0 : Int) (0 : Int) (0 : Int) (0 : Int) (0 : Int) (0 : Int)) u3 u0 u1 u2) = sumY 1 (StA.mk (OuA.mk (0 : Int) (0 : Int) (0 :
 Int) (0 : Int) (0 : Int) (0 : Int) (0 : Int)) (OuA.mk (0 : Int) (0 : Int) (0 : Int) (0 : Int) (0 : Int) (0 : Int) (0 : Int)) (OuA.mk (0 : Int) (0 : Int) (0 : Int) (0 : Int) (0 :
 Int) (0 : Int) (0 : Int)) u3 u0 u1 u2) /\ True) /\ (True /\ Z1 b3.1 /\ Z1 b3.2 /\ True) /\ True) /\ (∀ (_ : Unit), True -> ∃ (_ : Unit), True /\ true = true /\ True) /\ True) /\ True) /\ True))
 /\ True) /\ True
set_option maxHeartbeats 3200000 in
def RL2 (u0 : RuA) (u1 : PoA) (u2 : PoA) (u3 : Int) (u4 : Int) (u5 : Option AO) (u6 : Option AO) (u7 : Option AO) (u8 : Option AO) (u9 : Option AO) (u10 : Int) (u11 : Int) (u12 :
 Option AO) (u13 : Option AO) (u14 : Option AO) (u15 : Option AO) (u16 : Option AO) (u17 : Option AO) (u18 : Option AO) (u19 : Option AO) (u20 : Option AO) (u21 : Option AO) (u22 :
 Option AO) (u23 : Option AO) (u24 : Option AO) (u25 : RuA) (u26 : Int) (u27 : Int) (u28 : Option AO) (u29 : Option AO) (u30 : Option AO) (u31 : Option AO) (u32 : Option AO) (u33 :
 Option AO) (u34 : Option AO) (u35 : Option AO) (u36 : Option AO) (u37 : Option AO) (u38 : Option AO) (u39 : Option AO) (u40 : Option AO) (u41 : Option AO) (u42 : Option AO) (u43 :
 Option AO) (u44 : Option AO) (u45 : Option AO) : Prop := (True /\ True /\ QYw5P_20) /\ (True /\ (∃ (b0 b1 : Nat), isG u0 u1 b0 b1)) /\ ((0 = 0 /\ QYw5P_8 u1 /\ True) /\ QYw5P_1 u0 u1) /\ (∀ (b0 : TnB), (∃ (b1 b2 : Nat), isG u0 u1 b1 b2 /\ b0.1 =
 turnG b1 b2) -> QYw5P_20 /\ (b0.1 = (-1 : Int) -> QYw5P_12 u2 /\ QYw5P_23 u2 /\ (∀ (_ : Unit), True -> QYw5P_2 u3 u4 /\ QYw5P_4 u3 u4 /\ (∀ (b2 : XyB), QYw5P_9 u3 u4 b2.1 b2.2 -> QYw5P_13
 u5 u6 u7 /\ QYw5P_14 u8 u9 /\ QYw5P_12 u1 /\ QYw5P_23 u1 /\ (∀ (_ : Unit), True -> QYw5P_2 u10 u11 /\ QYw5P_4 u10 u11 /\ (∀ (b4 : XyB), QYw5P_9 u10 u11 b4.1 b4.2 -> ((True /\ True /\ True) /\
 (True /\ True /\ True) /\ (True /\ True /\ True) /\ (u12 = u12 /\ u13 = u13 /\ True) /\ QYw5P_30 u14) /\ QYw5P_14 u15 u16 /\ (True /\ isGx u0 u1 /\ (smQ u10 /\ smQ u11) /\ smQ u3 /\ smQ u4) /\
 QYw5P_43 u2 u1 u3 u4 u10 u11 u0 /\ (∀ (b5 : EnM), QYw5P_29 u0 u1 u10 u11 b5 u3 u4 -> QYw5P_12 u2 /\ QYw5P_23 u2 /\ (∀ (_ : Unit), True -> QYw5P_2 b5.2 b5.3 /\ QYw5P_4 b5.2 b5.3 /\ (∀ (b7
 : XyB), QYw5P_9 b5.2 b5.3 b7.1 b7.2 -> QYw5P_13 u17 u18 u19 /\ QYw5P_14 u20 u21 /\ ∀ (b8 : Int), b8 = IntKind.wrap .i64 ((0 : Int) + b7.1) -> ∀ (b9 : Int), b9 = IntKind.wrap .i64 (b8 +
 b7.2) -> ∀ (b10 : Int), b10 = IntKind.wrap .i64 ((0 : Int) + b2.1) -> ∀ (b11 : Int), b11 = IntKind.wrap .i64 (b10 + b2.2) -> ∀ (b12 : Int), b12 = IntKind.wrap .i64 ((0 : Int) + b4.1)
 -> ∀ (b13 : Int), b13 = IntKind.wrap .i64 (b12 + b4.2) -> ∀ (b14 : Int), b14 = IntKind.wrap .i64 (b11 + b13) -> (b9 ≠ b14 -> (True /\ True /\ True /\ True /\ True /\ (True /\ True) /\ (True /\
 True) /\ True /\ True /\ True /\ True /\ True /\ True /\ True /\ True /\ True /\ True /\ (True /\ True) /\ (u22 = u22 /\ True) /\ True /\ (True /\ True /\ True) /\ (u23 = u23 /\ u24 = u24 /\ True) /\
 QYw5P_41) /\ (∃ (_ : Unit), True /\ true = false /\ True)) /\ (¬(b9 ≠ b14) -> (True /\ isGx u25 u2 /\ smQ b5.2 /\ smQ b5.3) /\ ((0 = 0 /\ True) /\ (True /\ (0 = 0 /\ 1 = 1 /\ 1 = 1) /\ True) /\
 (True /\ QYw5P_18 u2) /\ (True /\ Z1 b5.2 /\ Z1 b5.3 /\ True) /\ QYw5P_1 u25 u2) /\ (∀ (b15 : XyB), PayD 0 (PyA.mk (GvA.mk u25 u2 b5.2 b5.3) (GvA.mk u25 u2 b5.2 b5.3) (GvA.mk u25 u2 b5.2
 b5.3) (GvA.mk u25 u2 b5.2 b5.3)) b15 -> (True /\ b15.1 = u26 /\ b15.2 = u27) /\ (QYw5P_46 /\ (True /\ Z1 b15.1 /\ Z1 b15.2 /\ True) /\ (True /\ u26 = u26 /\ u27 = u27 /\ True) /\ True) /\ (∀ (_
 : Unit), True -> QYw5P_12 u2 /\ ((QYw5P_8 u2 /\ QYw5P_8 u2 /\ True) /\ ZF u2.1 /\ ZF u2.2 /\ ZF u2.3 /\ ZF u2.1 /\ ZF u2.2 /\ ZF u2.3 /\ True) /\ (∀ (_ : Unit), True -> (True /\ True /\ True /\
 True /\ True /\ (True /\ True) /\ (True /\ True) /\ True /\ True /\ True /\ True /\ True /\ True /\ True /\ True /\ True /\ True /\ (True /\ True) /\ (u28 = u28 /\ True) /\ True /\ (True /\ True /\ True)
 /\ (u29 = u29 /\ u30 = u30 /\ True) /\ True /\ True /\ True /\ True /\ True /\ True /\ True /\ (True /\ True) /\ True /\ QYw5P_20) /\ RL1 u2 b5.2 b5.3 u25) /\ True) /\ True) /\ True)) /\ True) /\
 True) /\ (∀ (_ : Unit), (∃ (b6 b7 : Nat), isG u0 u1 b6 b7 /\ (0 : Int) <= turnG b6 b7) -> QYw5P_12 u2 /\ QYw5P_23 u2 /\ (∀ (_ : Unit), True -> QYw5P_2 u3 u4 /\ QYw5P_4 u3 u4 /\ (∀ (b7 :
 XyB), QYw5P_9 u3 u4 b7.1 b7.2 -> ((True /\ True /\ True) /\ (True /\ True /\ True) /\ (True /\ True /\ True) /\ (u31 = u31 /\ u32 = u32 /\ True) /\ True /\ True /\ True /\ True /\ True /\ (True /\
 True) /\ (True /\ True) /\ (True /\ True) /\ (u33 = u33 /\ True) /\ True /\ True /\ True /\ True) /\ QYw5P_14 u34 u35 /\ QYw5P_28) /\ True) /\ True) /\ True) /\ True) /\ True) /\ True) /\ True) /\
 (¬(b0.1 = (-1 : Int)) -> QYw5P_12 u2 /\ QYw5P_23 u2 /\ (∀ (_ : Unit), True -> QYw5P_2 u3 u4 /\ QYw5P_4 u3 u4 /\ (∀ (b2 : XyB), QYw5P_9 u3 u4 b2.1 b2.2 -> QYw5P_13 u36 u37 u38 /\ QYw5P_14
 u39 u40 /\ QYw5P_12 u1 /\ QYw5P_23 u1 /\ (∀ (_ : Unit), True -> QYw5P_2 u10 u11 /\ QYw5P_4 u10 u11 /\ (∀ (b4 : XyB), QYw5P_9 u10 u11 b4.1 b4.2 -> ((True /\ True /\ True) /\ (True /\ True /\
 True) /\ (True /\ True /\ True) /\ (u41 = u41 /\ u42 = u42 /\ True) /\ True /\ True /\ True /\ True /\ True /\ (True /\ True) /\ (True /\ True) /\ (True /\ True) /\ (u43 = u43 /\ True) /\ True /\ True
 /\ True /\ True) /\ QYw5P_14 u44 u45 /\ (True /\ isGx u0 u1 /\ (smQ u10 /\ smQ u11) /\ smQ u3 /\ smQ u4) /\ QYw5P_43 u2 u1 u3 u4 u10 u11 u0 /\ QYw5P_45 u0 u1 u10 u11 u3 u4) /\ True) /\ True) /\
 True) /\ True)) /\ True
set_option maxHeartbeats 3200000 in
def RL3 (u0 : RuA) (u1 : PoA) (u2 : PoA) (u3 : Int) (u4 : Int) (u5 : Option AO) (u6 : Option AO) (u7 : Option AO) (u8 : Option AO) (u9 : Option AO) (u10 : Int) (u11 : Int) (u12 :
 Option AO) (u13 : Option AO) (u14 : Option AO) (u15 : Option AO) (u16 : Option AO) (u17 : PoA) (u18 : Int) (u19 : Int) (u20 : Option AO) (u21 : Option AO) (u22 : Option AO) (u23 :
 Option AO) (u24 : Option AO) (u25 : Option AO) (u26 : Option AO) (u27 : Option AO) (u28 : RuA) (u29 : RuA) (u30 : Int) (u31 : Int) (u32 : Option AO) (u33 : Option AO) (u34 : Option
 AO) (u35 : Option AO) (u36 : Option AO) (u37 : Option AO) (u38 : Option AO) (u39 : Option AO) (u40 : Option AO) (u41 : Option AO) (u42 : Option AO) (u43 : Option AO) (u44 : Option
 AO) (u45 : Option AO) (u46 : Option AO) (u47 : Option AO) (u48 : Option AO) (u49 : Option AO) (u50 : Option AO) (u51 : Option AO) (u52 : Option AO) (u53 : Option AO) (u54 : Option
 AO) (u55 : Option AO) (u56 : Option AO) : Prop := (True /\ True /\ QYw5P_20) /\ (True /\ (∃ (b0 b1 : Nat), isG u0 u1 b0 b1)) /\ ((0 = 0 /\ QYw5P_8 u1 /\ True) /\ QYw5P_1 u0 u1) /\ (∀ (b0 : TnB), (∃ (b1 b2 : Nat), isG u0 u1 b1 b2 /\ b0.1 =
 turnG b1 b2) -> QYw5P_20 /\ (b0.1 = (-1 : Int) -> QYw5P_12 u2 /\ QYw5P_23 u2 /\ (∀ (_ : Unit), True -> QYw5P_2 u3 u4 /\ QYw5P_4 u3 u4 /\ (∀ (b2 : XyB), QYw5P_9 u3 u4 b2.1 b2.2 -> QYw5P_13
 u5 u6 u7 /\ QYw5P_14 u8 u9 /\ QYw5P_12 u1 /\ QYw5P_23 u1 /\ (∀ (_ : Unit), True -> QYw5P_2 u10 u11 /\ QYw5P_4 u10 u11 /\ (∀ (b4 : XyB), QYw5P_9 u10 u11 b4.1 b4.2 -> ((True /\ True /\ True) /\
 (True /\ True /\ True) /\ (True /\ True /\ True) /\ (u12 = u12 /\ u13 = u13 /\ True) /\ QYw5P_30 u14) /\ QYw5P_14 u15 u16 /\ (True /\ isGx u0 u1 /\ (smQ u10 /\ smQ u11) /\ smQ u3 /\ smQ u4) /\
 QYw5P_35 u17 u2 u1 u18 u19 u3 u4 u10 u11 u0 /\ (∀ (b5 : EnM), QYw5P_29 u0 u1 u10 u11 b5 u3 u4 -> QYw5P_12 u2 /\ QYw5P_23 u2 /\ (∀ (_ : Unit), True -> QYw5P_2 b5.2 b5.3 /\ QYw5P_4 b5.2
 b5.3 /\ (∀ (b7 : XyB), QYw5P_9 b5.2 b5.3 b7.1 b7.2 -> QYw5P_13 u20 u21 u22 /\ (True /\ True /\ True /\ (True /\ True) /\ (u23 = u23 /\ True) /\ (True /\ True) /\ (u24 = u24 /\ True) /\ True /\
 True /\ True /\ True) /\ ∀ (b8 : Int), b8 = IntKind.wrap .i64 ((0 : Int) + b7.1) -> ∀ (b9 : Int), b9 = IntKind.wrap .i64 (b8 + b7.2) -> ∀ (b10 : Int), b10 = IntKind.wrap .i64 ((0 : Int)
 + b2.1) -> ∀ (b11 : Int), b11 = IntKind.wrap .i64 (b10 + b2.2) -> ∀ (b12 : Int), b12 = IntKind.wrap .i64 ((0 : Int) + b4.1) -> ∀ (b13 : Int), b13 = IntKind.wrap .i64 (b12 + b4.2) -> ∀
 (b14 : Int), b14 = IntKind.wrap .i64 (b11 + b13) -> (b9 ≠ b14 -> (True /\ True /\ True /\ True /\ True /\ (True /\ True) /\ (True /\ True) /\ True /\ True /\ True /\ True /\ True /\ True /\ True /\
 True /\ True /\ True /\ (True /\ True) /\ (u25 = u25 /\ True) /\ True /\ (True /\ True /\ True) /\ (u26 = u26 /\ u27 = u27 /\ True) /\ QYw5P_41) /\ (∃ (_ : Unit), True /\ true = false /\ True)) /\
 (¬(b9 ≠ b14) -> (True /\ (isGx u28 u17 /\ smQ u18 /\ smQ u19) /\ isGx u29 u2 /\ smQ b5.2 /\ smQ b5.3) /\ ((0 = 0 /\ True) /\ (True /\ (0 = 0 /\ 2 = 2 /\ 2 = 2) /\ True) /\ (True /\ QYw5P_6 u17 u2)
 /\ (True /\ u18 = u18 /\ u19 = u19 /\ True) /\ (True /\ Z1 b5.2 /\ Z1 b5.3 /\ True) /\ QYw5P_7 u28 u17 u29 u2) /\ (∀ (b15 : XyB), PayD 1 (PyA.mk (GvA.mk u28 u17 u18 u19) (GvA.mk u29 u2 b5.2
 b5.3) (GvA.mk u28 u17 u18 u19) (GvA.mk u28 u17 u18 u19)) b15 -> (True /\ b15.1 = u30 /\ b15.2 = u31) /\ (QYw5P_46 /\ (True /\ Z1 b15.1 /\ Z1 b15.2 /\ True) /\ (True /\ u30 = u30 /\ u31 = u31
 /\ True) /\ True) /\ (∀ (_ : Unit), True -> QYw5P_12 u2 /\ ((QYw5P_8 u2 /\ QYw5P_8 u2 /\ True) /\ ZF u2.1 /\ ZF u2.2 /\ ZF u2.3 /\ ZF u2.1 /\ ZF u2.2 /\ ZF u2.3 /\ True) /\ (∀ (_ : Unit), True ->
 (True /\ True /\ True /\ True /\ True /\ (True /\ True) /\ (True /\ True) /\ True /\ True /\ True /\ True /\ True /\ True /\ True /\ True /\ True /\ True /\ (True /\ True) /\ (u32 = u32 /\ True) /\ True
 /\ (True /\ True /\ True) /\ (u33 = u33 /\ u34 = u34 /\ True) /\ True /\ True /\ True /\ True /\ True /\ True /\ True /\ (True /\ True) /\ True /\ QYw5P_20) /\ RL2 u29 u2 u17 u18 u19 u20 u20 u20 u35
 u35 b5.2 b5.3 u20 u20 u20 u36 u36 u37 u37 u37 u38 u38 u39 u40 u40 u28 u30 u31 u39 u40 u40 u20 u20 u20 u41 u41 u20 u20 u20 u35 u35 u20 u20 u20 u36 u36) /\ True) /\ True) /\ True)) /\
 True) /\ True) /\ (∀ (_ : Unit), (∃ (b6 b7 : Nat), isG u0 u1 b6 b7 /\ (0 : Int) <= turnG b6 b7) -> QYw5P_12 u2 /\ QYw5P_23 u2 /\ (∀ (_ : Unit), True -> QYw5P_2 u3 u4 /\ QYw5P_4 u3 u4 /\ (∀
 (b7 : XyB), QYw5P_9 u3 u4 b7.1 b7.2 -> QYw5P_36 u42 u43 u44 /\ QYw5P_14 u45 u46 /\ QYw5P_28) /\ True) /\ True) /\ True) /\ True) /\ True) /\ True) /\ True) /\ (¬(b0.1 = (-1 : Int)) -> QYw5P_12
 u2 /\ QYw5P_23 u2 /\ (∀ (_ : Unit), True -> QYw5P_2 u3 u4 /\ QYw5P_4 u3 u4 /\ (∀ (b2 : XyB), QYw5P_9 u3 u4 b2.1 b2.2 -> QYw5P_13 u47 u48 u49 /\ QYw5P_14 u50 u51 /\ QYw5P_12 u1 /\ QYw5P_23
 u1 /\ (∀ (_ : Unit), True -> QYw5P_2 u10 u11 /\ QYw5P_4 u10 u11 /\ (∀ (b4 : XyB), QYw5P_9 u10 u11 b4.1 b4.2 -> QYw5P_36 u52 u53 u54 /\ QYw5P_14 u55 u56 /\ (True /\ isGx u0 u1 /\ (smQ u10 /\
 smQ u11) /\ smQ u3 /\ smQ u4) /\ QYw5P_35 u17 u2 u1 u18 u19 u3 u4 u10 u11 u0 /\ QYw5P_45 u0 u1 u10 u11 u3 u4) /\ True) /\ True) /\ True) /\ True)) /\ True
set_option maxHeartbeats 3200000 in
def RL4 (u0 : RuA) (u1 : PoA) (u2 : PoA) (u3 : Int) (u4 : Int) (u5 : Option AO) (u6 : Option AO) (u7 : Option AO) (u8 : Option AO) (u9 : Option AO) (u10 : Int) (u11 : Int) (u12 :
 Option AO) (u13 : Option AO) (u14 : Option AO) (u15 : Option AO) (u16 : Option AO) (u17 : PoA) (u18 : PoA) (u19 : Int) (u20 : Int) (u21 : Int) (u22 : Int) (u23 : Option AO) (u24 :
 Option AO) (u25 : Option AO) (u26 : Option AO) (u27 : Option AO) (u28 : Option AO) (u29 : Option AO) (u30 : Option AO) (u31 : RuA) (u32 : RuA) (u33 : RuA) (u34 : Int) (u35 : Int)
 (u36 : Option AO) (u37 : Option AO) (u38 : Option AO) (u39 : Option AO) (u40 : Option AO) (u41 : Option AO) (u42 : Option AO) (u43 : Option AO) (u44 : Option AO) (u45 : Option AO)
 (u46 : Option AO) (u47 : Option AO) (u48 : Option AO) (u49 : Option AO) (u50 : Option AO) (u51 : Option AO) (u52 : Option AO) (u53 : Option AO) (u54 : Option AO) (u55 : Option AO)
 (u56 : Option AO) (u57 : Option AO) (u58 : Option AO) (u59 : Option AO) (u60 : Option AO) (u61 : Option AO) (u62 : Option AO) (u63 : Option AO) (u64 : Option AO) (u65 : Option AO)
 (u66 : Option AO) (u67 : Option AO) : Prop := (True /\ True /\ True /\ True /\ True /\ True /\ True /\ True /\ True /\ True /\ True /\ True /\ True) /\ (True /\ (∃ (b0 b1 : Nat), isG u0 u1 b0
 b1)) /\ ((0 = 0 /\ ((0 = 0 /\ 2 = 2 /\ 2 = 2) /\ (0 = 0 /\ 2 = 2 /\ 2 = 2) /\ (0 = 0 /\ 2 = 2 /\ 2 = 2) /\ Z1 u1.4 /\ Z1 u1.5 /\ Z1 u1.6 /\ Z1 u1.7 /\ Z1 u1.8 /\ True) /\ True) /\ (True /\ True /\ (0
 = 0 /\ 2 = 2 /\ 2 = 2) /\ Z1 u0.19.1 /\ Z1 u0.19.2 /\ Z1 u0.19.3 /\ Z1 u0.19.4 /\ Z1 u0.19.5 /\ Z1 u0.19.6 /\ Z1 u0.19.7 /\ Z1 u0.19.8 /\ 0 = 0 /\ (0 = 0 /\ 1 = 1 /\ 1 = 1) /\ (0 = 0 /\ 2 = 2 /\ 2
 = 2) /\ True) /\ (True /\ FlatL [Value.int .i64 1, Value.int .i64 1] /\ [Value.int .i64 1, Value.int .i64 1] = [Value.int .i64 1, Value.int .i64 1]) /\ (True /\ (2 : Int) = 2 /\ (2 : Int)
 = 2 /\ (0 = 0 /\ 2 = 2 /\ 2 = 2) /\ (0 = 0 /\ 1 = 1 /\ 1 = 1) /\ (0 = 0 /\ Z1 u0.1 /\ Z1 u0.1) /\ (0 = 0 /\ Z1 u0.2 /\ Z1 u0.2) /\ (0 = 0 /\ Z1 u0.3 /\ Z1 u0.3) /\ (0 = 0 /\ Z1 u0.4 /\ Z1 u0.4) /\ (0
 = 0 /\ Z1 u0.5 /\ Z1 u0.5) /\ Z1 u0.6 /\ Z1 u0.7 /\ Z1 u0.8 /\ Z1 u0.9 /\ Z1 u0.10 /\ True) /\ (True /\ FlatL [Value.int .i32 0, Value.int .i32 0] /\ [Value.int .i32 0, Value.int .i32 0] =
 [Value.int .i32 0, Value.int .i32 0]) /\ ZF u0.11 /\ ZF u0.12 /\ ZF u0.13 /\ ZF u0.14 /\ ZF u0.15 /\ ZF u0.16 /\ ZF u0.17 /\ ZF u0.18 /\ ZF u1.1 /\ ZF u1.2 /\ ZF u1.3 /\ ZF cells2 /\ True) /\ (∀
 (b0 : TnB), (∃ (b1 b2 : Nat), isG u0 u1 b1 b2 /\ b0.1 = turnG b1 b2) -> (True /\ True /\ True /\ True /\ True /\ True /\ True /\ True /\ True /\ True /\ True) /\ (b0.1 = (-1 : Int) -> (True /\ (∃
 (b1 b2 : Nat), (b1, b2) ∈ allG /\ PoA.mk u2.1 u2.2 u2.3 u2.4 u2.5 u2.6 u2.7 u2.8 = posG b1 b2)) /\ ((((0 = 0 /\ 2 = 2 /\ 2 = 2) /\ (0 = 0 /\ 2 = 2 /\ 2 = 2) /\ (0 = 0 /\ 2 = 2 /\ 2 = 2) /\ Z1
 u2.4 /\ Z1 u2.5 /\ Z1 u2.6 /\ Z1 u2.7 /\ Z1 u2.8 /\ True) /\ True) /\ ZF u2.1 /\ ZF u2.2 /\ ZF u2.3 /\ True) /\ (∀ (_ : Unit), True -> (True /\ (2 <= 2 /\ 0 + 2 <= List.length [Value.iface
 1000000007 (Value.int .i64 u3), Value.iface 1000000007 (Value.int .i64 u4)] /\ FlatL [Value.iface 1000000007 (Value.int .i64 u3), Value.iface 1000000007 (Value.int .i64 u4)]) /\ (∃
 (b2 b3 : Int), lwin [Value.iface 1000000007 (Value.int .i64 u3), Value.iface 1000000007 (Value.int .i64 u4)] 0 2 = [Value.iface 1000000007 (Value.int .i64 b2), Value.iface
 1000000007 (Value.int .i64 b3)])) /\ (((false = false /\ 0 = 0 /\ 2 = 2 /\ 2 = 2) /\ True) /\ (True /\ FlatL [Value.iface 1000000007 (Value.int .i64 u3), Value.iface 1000000007 (Value.int
 .i64 u4)] /\ [Value.iface 1000000007 (Value.int .i64 u3), Value.iface 1000000007 (Value.int .i64 u4)] = [Value.iface 1000000007 (Value.int .i64 u3), Value.iface 1000000007
 (Value.int .i64 u4)]) /\ True) /\ (∀ (b2 : XyB), lwin [Value.iface 1000000007 (Value.int .i64 u3), Value.iface 1000000007 (Value.int .i64 u4)] 0 2 = [Value.iface 1000000007
 (Value.int .i64 b2.1), Value.iface 1000000007 (Value.int .i64 b2.2)] -> ((True /\ True /\ True) /\ (True /\ True /\ True) /\ (True /\ True /\ True) /\ (u5 = u5 /\ u6 = u6 /\ True) /\ True /\
 True /\ True /\ True /\ True /\ (True /\ True) /\ (True /\ True) /\ (True /\ True) /\ (u7 = u7 /\ True) /\ True /\ True /\ True /\ True) /\ (True /\ True /\ True /\ (True /\ True) /\ (u8 = u8 /\ True) /\
 (True /\ True) /\ (u9 = u9 /\ True) /\ True /\ True /\ True /\ True) /\ (True /\ (∃ (b3 b4 : Nat), (b3, b4) ∈ allG /\ PoA.mk u1.1 u1.2 u1.3 u1.4 u1.5 u1.6 u1.7 u1.8 = posG b3 b4)) /\ ((((0 =
 0 /\ 2 = 2 /\ 2 = 2) /\ (0 = 0 /\ 2 = 2 /\ 2 = 2) /\ (0 = 0 /\ 2 = 2 /\ 2 = 2) /\ Z1 u1.4 /\ Z1 u1.5 /\ Z1 u1.6 /\ Z1 u1.7 /\ Z1 u1.8 /\ True) /\ True) /\ ZF u1.1 /\ ZF u1.2 /\ ZF u1.3 /\ True) /\ (∀
 (_ : Unit), True -> (True /\ (2 <= 2 /\ 0 + 2 <= List.length [Value.iface 1000000007 (Value.int .i64 u10), Value.iface 1000000007 (Value.int .i64 u11)] /\ FlatL [Value.iface 1000000007
 (Value.int .i64 u10), Value.iface 1000000007 (Value.int .i64 u11)]) /\ (∃ (b4 b5 : Int), lwin [Value.iface 1000000007 (Value.int .i64 u10), Value.iface 1000000007 (Value.int .i64
 u11)] 0 2 = [Value.iface 1000000007 (Value.int .i64 b4), Value.iface 1000000007 (Value.int .i64 b5)])) /\ (((false = false /\ 0 = 0 /\ 2 = 2 /\ 2 = 2) /\ True) /\ (True /\ FlatL
 [Value.iface 1000000007 (Value.int .i64 u10), Value.iface 1000000007 (Value.int .i64 u11)] /\ [Value.iface 1000000007 (Value.int .i64 u10), Value.iface 1000000007 (Value.int .i64
 u11)] = [Value.iface 1000000007 (Value.int .i64 u10), Value.iface 1000000007 (Value.int .i64 u11)]) /\ True) /\ (∀ (b4 : XyB), lwin [Value.iface 1000000007 (Value.int .i64 u10),
 Value.iface 1000000007 (Value.int .i64 u11)] 0 2 = [Value.iface 1000000007 (Value.int .i64 b4.1), Value.iface 1000000007 (Value.int .i64 b4.2)] -> ((True /\ True /\ True) /\ (True /\
 True /\ True) /\ (True /\ True /\ True) /\ (u12 = u12 /\ u13 = u13 /\ True) /\ True /\ True /\ True /\ True /\ True /\ (True /\ True) /\ (True /\ True) /\ (True /\ True) /\ (u14 = u14 /\ True) /\ True
 /\ True /\ True /\ True) /\ (True /\ True /\ True /\ (True /\ True) /\ (u15 = u15 /\ True) /\ (True /\ True) /\ (u16 = u16 /\ True) /\ True /\ True /\ True /\ True) /\ (True /\ isGx u0 u1 /\ (smQ u10 /\
 smQ u11) /\ smQ u3 /\ smQ u4) /\ ((0 = 0 /\ True) /\ (True /\ (0 = 0 /\ 4 = 4 /\ 4 = 4) /\ True) /\ (4 = 4 /\ 0 = 0 /\ (0 = 0 /\ 2 = 2 /\ 2 = 2) /\ (0 = 0 /\ 2 = 2 /\ 2 = 2) /\ (0 = 0 /\ 2 = 2 /\ 2 =
 2) /\ Z1 u17.4 /\ Z1 u17.5 /\ Z1 u17.6 /\ Z1 u17.7 /\ Z1 u17.8 /\ (0 = 0 /\ 2 = 2 /\ 2 = 2) /\ 0 = 0 /\ (0 = 0 /\ 2 = 2 /\ 2 = 2) /\ (0 = 0 /\ 2 = 2 /\ 2 = 2) /\ (0 = 0 /\ 2 = 2 /\ 2 = 2) /\ Z1 u18.4
 /\ Z1 u18.5 /\ Z1 u18.6 /\ Z1 u18.7 /\ Z1 u18.8 /\ (0 = 0 /\ 2 = 2 /\ 2 = 2) /\ 0 = 0 /\ (0 = 0 /\ 2 = 2 /\ 2 = 2) /\ (0 = 0 /\ 2 = 2 /\ 2 = 2) /\ (0 = 0 /\ 2 = 2 /\ 2 = 2) /\ Z1 u2.4 /\ Z1 u2.5 /\ Z1
 u2.6 /\ Z1 u2.7 /\ Z1 u2.8 /\ (0 = 0 /\ 2 = 2 /\ 2 = 2) /\ 0 = 0 /\ (0 = 0 /\ 2 = 2 /\ 2 = 2) /\ (0 = 0 /\ 2 = 2 /\ 2 = 2) /\ (0 = 0 /\ 2 = 2 /\ 2 = 2) /\ Z1 u1.4 /\ Z1 u1.5 /\ Z1 u1.6 /\ Z1 u1.7 /\
 Z1 u1.8 /\ (0 = 0 /\ 2 = 2 /\ 2 = 2) /\ True) /\ (2 = 2 /\ u19 = u19 /\ u20 = u20 /\ True) /\ (2 = 2 /\ u21 = u21 /\ u22 = u22 /\ True) /\ (2 = 2 /\ u3 = u3 /\ u4 = u4 /\ True) /\ (2 = 2 /\ u10 =
 u10 /\ u11 = u11 /\ True) /\ (True /\ True) /\ (True /\ True) /\ (True /\ True) /\ (True /\ True) /\ (True /\ True) /\ (True /\ True) /\ (True /\ True) /\ (True /\ True) /\ (True /\ True) /\ (True /\
 True) /\ (True /\ True) /\ (True /\ True) /\ (True /\ True /\ (0 = 0 /\ 2 = 2 /\ 2 = 2) /\ Z1 u0.19.1 /\ Z1 u0.19.2 /\ Z1 u0.19.3 /\ Z1 u0.19.4 /\ Z1 u0.19.5 /\ Z1 u0.19.6 /\ Z1 u0.19.7 /\ Z1
 u0.19.8 /\ 0 = 0 /\ (0 = 0 /\ 1 = 1 /\ 1 = 1) /\ (0 = 0 /\ 2 = 2 /\ 2 = 2) /\ True) /\ (True /\ FlatL [Value.int .i64 1, Value.int .i64 1] /\ [Value.int .i64 1, Value.int .i64 1] = [Value.int
 .i64 1, Value.int .i64 1]) /\ (True /\ (2 : Int) = 2 /\ (2 : Int) = 2 /\ (0 = 0 /\ 2 = 2 /\ 2 = 2) /\ (0 = 0 /\ 1 = 1 /\ 1 = 1) /\ (0 = 0 /\ Z1 u0.1 /\ Z1 u0.1) /\ (0 = 0 /\ Z1 u0.2 /\ Z1 u0.2) /\
 (0 = 0 /\ Z1 u0.3 /\ Z1 u0.3) /\ (0 = 0 /\ Z1 u0.4 /\ Z1 u0.4) /\ (0 = 0 /\ Z1 u0.5 /\ Z1 u0.5) /\ Z1 u0.6 /\ Z1 u0.7 /\ Z1 u0.8 /\ Z1 u0.9 /\ Z1 u0.10 /\ True) /\ (True /\ FlatL [Value.int .i32
 0, Value.int .i32 0] /\ [Value.int .i32 0, Value.int .i32 0] = [Value.int .i32 0, Value.int .i32 0]) /\ ZF u0.11 /\ ZF u0.12 /\ ZF u0.13 /\ ZF u0.14 /\ ZF u0.15 /\ ZF u0.16 /\ ZF u0.17 /\
 ZF u0.18 /\ ZF u1.1 /\ ZF u1.2 /\ ZF u1.3 /\ ZF cells2 /\ True) /\ (∀ (b5 : EnM), (∃ (b6 b7 : Nat), isG u0 u1 b6 b7 /\ turnG b6 b7 < (0 : Int) /\ payR b6 b7 (u10 + u11) b5.1.1 b5.1.2) /\
 b5.2 = u3 + b5.1.1 /\ b5.3 = u4 + b5.1.2 -> (True /\ (∃ (b6 b7 : Nat), (b6, b7) ∈ allG /\ PoA.mk u2.1 u2.2 u2.3 u2.4 u2.5 u2.6 u2.7 u2.8 = posG b6 b7)) /\ ((((0 = 0 /\ 2 = 2 /\ 2 = 2) /\
 (0 = 0 /\ 2 = 2 /\ 2 = 2) /\ (0 = 0 /\ 2 = 2 /\ 2 = 2) /\ Z1 u2.4 /\ Z1 u2.5 /\ Z1 u2.6 /\ Z1 u2.7 /\ Z1 u2.8 /\ True) /\ True) /\ ZF u2.1 /\ ZF u2.2 /\ ZF u2.3 /\ True) /\ (∀ (_ : Unit), True ->
 (True /\ (2 <= 2 /\ 0 + 2 <= List.length [Value.iface 1000000007 (Value.int .i64 b5.2), Value.iface 1000000007 (Value.int .i64 b5.3)] /\ FlatL [Value.iface 1000000007 (Value.int .i64
 b5.2), Value.iface 1000000007 (Value.int .i64 b5.3)]) /\ (∃ (b7 b8 : Int), lwin [Value.iface 1000000007 (Value.int .i64 b5.2), Value.iface 1000000007 (Value.int .i64 b5.3)] 0 2 =
 [Value.iface 1000000007 (Value.int .i64 b7), Value.iface 1000000007 (Value.int .i64 b8)])) /\ (((false = false /\ 0 = 0 /\ 2 = 2 /\ 2 = 2) /\ True) /\ (True /\ FlatL [Value.iface
 1000000007 (Value.int .i64 b5.2), Value.iface 1000000007 (Value.int .i64 b5.3)] /\ [Value.iface 1000000007 (Value.int .i64 b5.2), Value.iface 1000000007 (Value.int .i64 b5.3)] =
 [Value.iface 1000000007 (Value.int .i64 b5.2), Value.iface 1000000007 (Value.int .i64 b5.3)]) /\ True) /\ (∀ (b7 : XyB), lwin [Value.iface 1000000007 (Value.int .i64 b5.2),
 Value.iface 1000000007 (Value.int .i64 b5.3)] 0 2 = [Value.iface 1000000007 (Value.int .i64 b7.1), Value.iface 1000000007 (Value.int .i64 b7.2)] -> ((True /\ True /\ True) /\ (True /\
 True /\ True) /\ (True /\ True /\ True) /\ (u23 = u23 /\ u24 = u24 /\ True) /\ True /\ True /\ True /\ True /\ True /\ (True /\ True) /\ (True /\ True) /\ (True /\ True) /\ (u25 = u25 /\ True) /\ True
 /\ True /\ True /\ True) /\ (True /\ True /\ True /\ (True /\ True) /\ (u26 = u26 /\ True) /\ (True /\ True) /\ (u27 = u27 /\ True) /\ True /\ True /\ True /\ True) /\ ∀ (b8 : Int), b8 = IntKind.wrap
 .i64 ((0 : Int) + b7.1) -> ∀ (b9 : Int), b9 = IntKind.wrap .i64 (b8 + b7.2) -> ∀ (b10 : Int), b10 = IntKind.wrap .i64 ((0 : Int) + b2.1) -> ∀ (b11 : Int), b11 = IntKind.wrap .i64 (b10
 + b2.2) -> ∀ (b12 : Int), b12 = IntKind.wrap .i64 ((0 : Int) + b4.1) -> ∀ (b13 : Int), b13 = IntKind.wrap .i64 (b12 + b4.2) -> ∀ (b14 : Int), b14 = IntKind.wrap .i64 (b11 + b13) -> (b9
 ≠ b14 -> (True /\ True /\ True /\ True /\ True /\ (True /\ True) /\ (True /\ True) /\ True /\ True /\ True /\ True /\ True /\ True /\ True /\ True /\ True /\ True /\ (True /\ True) /\ (u28 = u28 /\ True)
 /\ True /\ (True /\ True /\ True) /\ (u29 = u29 /\ u30 = u30 /\ True) /\ True /\ True /\ True /\ True /\ True /\ True /\ True /\ True /\ True /\ True /\ True /\ True /\ True /\ True /\ True /\ True /\
 True /\ True /\ True /\ True) /\ (∃ (_ : Unit), True /\ true = false /\ True)) /\ (¬(b9 ≠ b14) -> (True /\ (isGx u31 u17 /\ smQ u19 /\ smQ u20) /\ (isGx u32 u18 /\ smQ u21 /\ smQ u22) /\ isGx u33
 u2 /\ smQ b5.2 /\ smQ b5.3) /\ ((0 = 0 /\ True) /\ (True /\ (0 = 0 /\ 3 = 3 /\ 3 = 3) /\ True) /\ (True /\ 0 = 0 /\ (0 = 0 /\ 2 = 2 /\ 2 = 2) /\ (0 = 0 /\ 2 = 2 /\ 2 = 2) /\ (0 = 0 /\ 2 = 2 /\ 2 = 2)
 /\ Z1 u17.4 /\ Z1 u17.5 /\ Z1 u17.6 /\ Z1 u17.7 /\ Z1 u17.8 /\ (0 = 0 /\ 2 = 2 /\ 2 = 2) /\ 0 = 0 /\ (0 = 0 /\ 2 = 2 /\ 2 = 2) /\ (0 = 0 /\ 2 = 2 /\ 2 = 2) /\ (0 = 0 /\ 2 = 2 /\ 2 = 2) /\ Z1 u18.4 /\
 Z1 u18.5 /\ Z1 u18.6 /\ Z1 u18.7 /\ Z1 u18.8 /\ (0 = 0 /\ 2 = 2 /\ 2 = 2) /\ 0 = 0 /\ (0 = 0 /\ 2 = 2 /\ 2 = 2) /\ (0 = 0 /\ 2 = 2 /\ 2 = 2) /\ (0 = 0 /\ 2 = 2 /\ 2 = 2) /\ Z1 u2.4 /\ Z1 u2.5 /\ Z1
 u2.6 /\ Z1 u2.7 /\ Z1 u2.8 /\ (0 = 0 /\ 2 = 2 /\ 2 = 2) /\ True) /\ (True /\ u19 = u19 /\ u20 = u20 /\ True) /\ (True /\ u21 = u21 /\ u22 = u22 /\ True) /\ (True /\ Z1 b5.2 /\ Z1 b5.3 /\ True) /\
 (True /\ True /\ (0 = 0 /\ 2 = 2 /\ 2 = 2) /\ Z1 u31.19.1 /\ Z1 u31.19.2 /\ Z1 u31.19.3 /\ Z1 u31.19.4 /\ Z1 u31.19.5 /\ Z1 u31.19.6 /\ Z1 u31.19.7 /\ Z1 u31.19.8 /\ 0 = 0 /\ (0 = 0 /\ 1 = 1 /\ 1
 = 1) /\ (0 = 0 /\ 2 = 2 /\ 2 = 2) /\ True) /\ (True /\ FlatL [Value.int .i64 1, Value.int .i64 1] /\ [Value.int .i64 1, Value.int .i64 1] = [Value.int .i64 1, Value.int .i64 1]) /\ (True /\
 (2 : Int) = 2 /\ (2 : Int) = 2 /\ (0 = 0 /\ 2 = 2 /\ 2 = 2) /\ (0 = 0 /\ 1 = 1 /\ 1 = 1) /\ (0 = 0 /\ Z1 u31.1 /\ Z1 u31.1) /\ (0 = 0 /\ Z1 u31.2 /\ Z1 u31.2) /\ (0 = 0 /\ Z1 u31.3 /\ Z1 u31.3) /\
 (0 = 0 /\ Z1 u31.4 /\ Z1 u31.4) /\ (0 = 0 /\ Z1 u31.5 /\ Z1 u31.5) /\ Z1 u31.6 /\ Z1 u31.7 /\ Z1 u31.8 /\ Z1 u31.9 /\ Z1 u31.10 /\ True) /\ (True /\ FlatL [Value.int .i32 0, Value.int .i32 0] /\
 [Value.int .i32 0, Value.int .i32 0] = [Value.int .i32 0, Value.int .i32 0]) /\ ZF u31.11 /\ ZF u31.12 /\ ZF u31.13 /\ ZF u31.14 /\ ZF u31.15 /\ ZF u31.16 /\ ZF u31.17 /\ ZF u31.18 /\ ZF
 u17.1 /\ ZF u17.2 /\ ZF u17.3 /\ (True /\ True /\ (0 = 0 /\ 2 = 2 /\ 2 = 2) /\ Z1 u32.19.1 /\ Z1 u32.19.2 /\ Z1 u32.19.3 /\ Z1 u32.19.4 /\ Z1 u32.19.5 /\ Z1 u32.19.6 /\ Z1 u32.19.7 /\ Z1 u32.19.8
 /\ 0 = 0 /\ (0 = 0 /\ 1 = 1 /\ 1 = 1) /\ (0 = 0 /\ 2 = 2 /\ 2 = 2) /\ True) /\ (True /\ FlatL [Value.int .i64 1, Value.int .i64 1] /\ [Value.int .i64 1, Value.int .i64 1] = [Value.int .i64 1,
 Value.int .i64 1]) /\ (True /\ (2 : Int) = 2 /\ (2 : Int) = 2 /\ (0 = 0 /\ 2 = 2 /\ 2 = 2) /\ (0 = 0 /\ 1 = 1 /\ 1 = 1) /\ (0 = 0 /\ Z1 u32.1 /\ Z1 u32.1) /\ (0 = 0 /\ Z1 u32.2 /\ Z1 u32.2) /\ (0
 = 0 /\ Z1 u32.3 /\ Z1 u32.3) /\ (0 = 0 /\ Z1 u32.4 /\ Z1 u32.4) /\ (0 = 0 /\ Z1 u32.5 /\ Z1 u32.5) /\ Z1 u32.6 /\ Z1 u32.7 /\ Z1 u32.8 /\ Z1 u32.9 /\ Z1 u32.10 /\ True) /\ (True /\ FlatL
 [Value.int .i32 0, Value.int .i32 0] /\ [Value.int .i32 0, Value.int .i32 0] = [Value.int .i32 0, Value.int .i32 0]) /\ ZF u32.11 /\ ZF u32.12 /\ ZF u32.13 /\ ZF u32.14 /\ ZF u32.15 /\ ZF
 u32.16 /\ ZF u32.17 /\ ZF u32.18 /\ ZF u18.1 /\ ZF u18.2 /\ ZF u18.3 /\ (True /\ True /\ (0 = 0 /\ 2 = 2 /\ 2 = 2) /\ Z1 u33.19.1 /\ Z1 u33.19.2 /\ Z1 u33.19.3 /\ Z1 u33.19.4 /\ Z1 u33.19.5 /\ Z1
 u33.19.6 /\ Z1 u33.19.7 /\ Z1 u33.19.8 /\ 0 = 0 /\ (0 = 0 /\ 1 = 1 /\ 1 = 1) /\ (0 = 0 /\ 2 = 2 /\ 2 = 2) /\ True) /\ (True /\ FlatL [Value.int .i64 1, Value.int .i64 1] /\ [Value.int .i64 1,
 Value.int .i64 1] = [Value.int .i64 1, Value.int .i64 1]) /\ (True /\ (2 : Int) = 2 /\ (2 : Int) = 2 /\ (0 = 0 /\ 2 = 2 /\ 2 = 2) /\ (0 = 0 /\ 1 = 1 /\ 1 = 1) /\ (0 = 0 /\ Z1 u33.1 /\ Z1
 u33.1) /\ (0 = 0 /\ Z1 u33.2 /\ Z1 u33.2) /\ (0 = 0 /\ Z1 u33.3 /\ Z1 u33.3) /\ (0 = 0 /\ Z1 u33.4 /\ Z1 u33.4) /\ (0 = 0 /\ Z1 u33.5 /\ Z1 u33.5) /\ Z1 u33.6 /\ Z1 u33.7 /\ Z1 u33.8 /\ Z1 u33.9 /\
 Z1 u33.10 /\ True) /\ (True /\ FlatL [Value.int .i32 0, Value.int .i32 0] /\ [Value.int .i32 0, Value.int .i32 0] = [Value.int .i32 0, Value.int .i32 0]) /\ ZF u33.11 /\ ZF u33.12 /\ ZF
 u33.13 /\ ZF u33.14 /\ ZF u33.15 /\ ZF u33.16 /\ ZF u33.17 /\ ZF u33.18 /\ ZF u2.1 /\ ZF u2.2 /\ ZF u2.3 /\ ZF cells2 /\ True) /\ (∀ (b15 : XyB), PayD 2 (PyA.mk (GvA.mk u31 u17 u19 u20)
 (GvA.mk u32 u18 u21 u22) (GvA.mk u33 u2 b5.2 b5.3) (GvA.mk u31 u17 u19 u20)) b15 -> (True /\ b15.1 = u34 /\ b15.2 = u35) /\ (((0 = 0 /\ 2 = 2 /\ 2 = 2) /\ (0 = 0 /\ 2 = 2 /\ 2 = 2) /\ True)
 /\ (True /\ Z1 b15.1 /\ Z1 b15.2 /\ True) /\ (True /\ u34 = u34 /\ u35 = u35 /\ True) /\ True) /\ (∀ (_ : Unit), True -> (True /\ (∃ (b17 b18 : Nat), (b17, b18) ∈ allG /\ PoA.mk u2.1 u2.2 u2.3
 u2.4 u2.5 u2.6 u2.7 u2.8 = posG b17 b18)) /\ ((((0 = 0 /\ 2 = 2 /\ 2 = 2) /\ (0 = 0 /\ 2 = 2 /\ 2 = 2) /\ (0 = 0 /\ 2 = 2 /\ 2 = 2) /\ Z1 u2.4 /\ Z1 u2.5 /\ Z1 u2.6 /\ Z1 u2.7 /\ Z1 u2.8 /\ True)
 /\ ((0 = 0 /\ 2 = 2 /\ 2 = 2) /\ (0 = 0 /\ 2 = 2 /\ 2 = 2) /\ (0 = 0 /\ 2 = 2 /\ 2 = 2) /\ Z1 u2.4 /\ Z1 u2.5 /\ Z1 u2.6 /\ Z1 u2.7 /\ Z1 u2.8 /\ True) /\ True) /\ ZF u2.1 /\ ZF u2.2 /\ ZF u2.3 /\ ZF
 u2.1 /\ ZF u2.2 /\ ZF u2.3 /\ True) /\ (∀ (_ : Unit), True -> (True /\ True /\ True /\ True /\ True /\ (True /\ True) /\ (True /\ True) /\ True /\ True /\ True /\ True /\ True /\ True /\ True /\ True /\
 True /\ True /\ (True /\ True) /\ (u36 = u36 /\ True) /\ True /\ (True /\ True /\ True) /\ (u37 = u37 /\ u38 = u38 /\ True) /\ True /\ True /\ True /\ True /\ True /\ True /\ True /\ (True /\ True) /\
 True /\ True /\ True /\ True /\ True /\ True /\ True /\ True /\ True /\ True /\ True /\ True) /\ RL3 u33 u2 u18 u21 u22 u23 u23 u23 u39 u39 b5.2 b5.3 u23 u23 u23 u40 u40 u17 u19 u20 u41 u41
 u41 u42 u42 u43 u44 u44 u31 u32 u34 u35 u43 u44 u44 u45 u46 u47 u48 u49 u50 u51 u23 u23 u23 u52 u52 u23 u23 u23 u39 u39 u23 u23 u23 u40 u40) /\ True) /\ True) /\ True)) /\ True) /\
 True) /\ (∀ (_ : Unit), (∃ (b6 b7 : Nat), isG u0 u1 b6 b7 /\ (0 : Int) <= turnG b6 b7) -> (True /\ (∃ (b6 b7 : Nat), (b6, b7) ∈ allG /\ PoA.mk u2.1 u2.2 u2.3 u2.4 u2.5 u2.6 u2.7 u2.8 =
 posG b6 b7)) /\ ((((0 = 0 /\ 2 = 2 /\ 2 = 2) /\ (0 = 0 /\ 2 = 2 /\ 2 = 2) /\ (0 = 0 /\ 2 = 2 /\ 2 = 2) /\ Z1 u2.4 /\ Z1 u2.5 /\ Z1 u2.6 /\ Z1 u2.7 /\ Z1 u2.8 /\ True) /\ True) /\ ZF u2.1 /\ ZF u2.2
 /\ ZF u2.3 /\ True) /\ (∀ (_ : Unit), True -> (True /\ (2 <= 2 /\ 0 + 2 <= List.length [Value.iface 1000000007 (Value.int .i64 u3), Value.iface 1000000007 (Value.int .i64 u4)] /\ FlatL
 [Value.iface 1000000007 (Value.int .i64 u3), Value.iface 1000000007 (Value.int .i64 u4)]) /\ (∃ (b7 b8 : Int), lwin [Value.iface 1000000007 (Value.int .i64 u3), Value.iface
 1000000007 (Value.int .i64 u4)] 0 2 = [Value.iface 1000000007 (Value.int .i64 b7), Value.iface 1000000007 (Value.int .i64 b8)])) /\ (((false = false /\ 0 = 0 /\ 2 = 2 /\ 2 = 2) /\ True)
 /\ (True /\ FlatL [Value.iface 1000000007 (Value.int .i64 u3), Value.iface 1000000007 (Value.int .i64 u4)] /\ [Value.iface 1000000007 (Value.int .i64 u3), Value.iface 1000000007
 (Value.int .i64 u4)] = [Value.iface 1000000007 (Value.int .i64 u3), Value.iface 1000000007 (Value.int .i64 u4)]) /\ True) /\ (∀ (b7 : XyB), lwin [Value.iface 1000000007 (Value.int
 .i64 u3), Value.iface 1000000007 (Value.int .i64 u4)] 0 2 = [Value.iface 1000000007 (Value.int .i64 b7.1), Value.iface 1000000007 (Value.int .i64 b7.2)] -> ((True /\ True /\ True) /\
 (True /\ True /\ True) /\ (True /\ True /\ True) /\ (u53 = u53 /\ u54 = u54 /\ True) /\ True /\ True /\ True /\ True /\ True /\ (True /\ True) /\ (True /\ True) /\ (True /\ True) /\ (u55 = u55 /\ True)
 /\ True /\ True /\ True /\ True) /\ (True /\ True /\ True /\ (True /\ True) /\ (u56 = u56 /\ True) /\ (True /\ True) /\ (u57 = u57 /\ True) /\ True /\ True /\ True /\ True) /\ (True /\ True /\ True /\
 True /\ True /\ True /\ True /\ True /\ True /\ True /\ True /\ True /\ True /\ True /\ True /\ True /\ True /\ True /\ True /\ True /\ True /\ True /\ True /\ True /\ True /\ True /\ True /\ True /\ True
 /\ True /\ True /\ True /\ True /\ True /\ True /\ True /\ True /\ True /\ True /\ True /\ True /\ True) /\ ∃ (_ : Unit), True /\ true = false /\ True) /\ True) /\ True) /\ True) /\ True) /\ True) /\
 True) /\ True) /\ (¬(b0.1 = (-1 : Int)) -> (True /\ (∃ (b1 b2 : Nat), (b1, b2) ∈ allG /\ PoA.mk u2.1 u2.2 u2.3 u2.4 u2.5 u2.6 u2.7 u2.8 = posG b1 b2)) /\ ((((0 = 0 /\ 2 = 2 /\ 2 = 2) /\ (0
 = 0 /\ 2 = 2 /\ 2 = 2) /\ (0 = 0 /\ 2 = 2 /\ 2 = 2) /\ Z1 u2.4 /\ Z1 u2.5 /\ Z1 u2.6 /\ Z1 u2.7 /\ Z1 u2.8 /\ True) /\ True) /\ ZF u2.1 /\ ZF u2.2 /\ ZF u2.3 /\ True) /\ (∀ (_ : Unit), True -> (True
 /\ (2 <= 2 /\ 0 + 2 <= List.length [Value.iface 1000000007 (Value.int .i64 u3), Value.iface 1000000007 (Value.int .i64 u4)] /\ FlatL [Value.iface 1000000007 (Value.int .i64 u3),
 Value.iface 1000000007 (Value.int .i64 u4)]) /\ (∃ (b2 b3 : Int), lwin [Value.iface 1000000007 (Value.int .i64 u3), Value.iface 1000000007 (Value.int .i64 u4)] 0 2 = [Value.iface
 1000000007 (Value.int .i64 b2), Value.iface 1000000007 (Value.int .i64 b3)])) /\ (((false = false /\ 0 = 0 /\ 2 = 2 /\ 2 = 2) /\ True) /\ (True /\ FlatL [Value.iface 1000000007 (Value.int
 .i64 u3), Value.iface 1000000007 (Value.int .i64 u4)] /\ [Value.iface 1000000007 (Value.int .i64 u3), Value.iface 1000000007 (Value.int .i64 u4)] = [Value.iface 1000000007
 (Value.int .i64 u3), Value.iface 1000000007 (Value.int .i64 u4)]) /\ True) /\ (∀ (b2 : XyB), lwin [Value.iface 1000000007 (Value.int .i64 u3), Value.iface 1000000007 (Value.int .i64
 u4)] 0 2 = [Value.iface 1000000007 (Value.int .i64 b2.1), Value.iface 1000000007 (Value.int .i64 b2.2)] -> ((True /\ True /\ True) /\ (True /\ True /\ True) /\ (True /\ True /\ True) /\ (u58
 = u58 /\ u59 = u59 /\ True) /\ True /\ True /\ True /\ True /\ True /\ (True /\ True) /\ (True /\ True) /\ (True /\ True) /\ (u60 = u60 /\ True) /\ True /\ True /\ True /\ True) /\ (True /\ True /\ True
 /\ (True /\ True) /\ (u61 = u61 /\ True) /\ (True /\ True) /\ (u62 = u62 /\ True) /\ True /\ True /\ True /\ True) /\ (True /\ (∃ (b3 b4 : Nat), (b3, b4) ∈ allG /\ PoA.mk u1.1 u1.2 u1.3 u1.4 u1.5
 u1.6 u1.7 u1.8 = posG b3 b4)) /\ ((((0 = 0 /\ 2 = 2 /\ 2 = 2) /\ (0 = 0 /\ 2 = 2 /\ 2 = 2) /\ (0 = 0 /\ 2 = 2 /\ 2 = 2) /\ Z1 u1.4 /\ Z1 u1.5 /\ Z1 u1.6 /\ Z1 u1.7 /\ Z1 u1.8 /\ True) /\ True) /\
 ZF u1.1 /\ ZF u1.2 /\ ZF u1.3 /\ True) /\ (∀ (_ : Unit), True -> (True /\ (2 <= 2 /\ 0 + 2 <= List.length [Value.iface 1000000007 (Value.int .i64 u10), Value.iface 1000000007 (Value.int
 .i64 u11)] /\ FlatL [Value.iface 1000000007 (Value.int .i64 u10), Value.iface 1000000007 (Value.int .i64 u11)]) /\ (∃ (b4 b5 : Int), lwin [Value.iface 1000000007 (Value.int .i64
 u10), Value.iface 1000000007 (Value.int .i64 u11)] 0 2 = [Value.iface 1000000007 (Value.int .i64 b4), Value.iface 1000000007 (Value.int .i64 b5)])) /\ (((false = false /\ 0 = 0 /\ 2 =
 2 /\ 2 = 2) /\ True) /\ (True /\ FlatL [Value.iface 1000000007 (Value.int .i64 u10), Value.iface 1000000007 (Value.int .i64 u11)] /\ [Value.iface 1000000007 (Value.int .i64 u10),
 Value.iface 1000000007 (Value.int .i64 u11)] = [Value.iface 1000000007 (Value.int .i64 u10), Value.iface 1000000007 (Value.int .i64 u11)]) /\ True) /\ (∀ (b4 : XyB), lwin
 [Value.iface 1000000007 (Value.int .i64 u10), Value.iface 1000000007 (Value.int .i64 u11)] 0 2 = [Value.iface 1000000007 (Value.int .i64 b4.1), Value.iface 1000000007 (Value.int
 .i64 b4.2)] -> ((True /\ True /\ True) /\ (True /\ True /\ True) /\ (True /\ True /\ True) /\ (u63 = u63 /\ u64 = u64 /\ True) /\ True /\ True /\ True /\ True /\ True /\ (True /\ True) /\ (True /\
 True) /\ (True /\ True) /\ (u65 = u65 /\ True) /\ True /\ True /\ True /\ True) /\ (True /\ True /\ True /\ (True /\ True) /\ (u66 = u66 /\ True) /\ (True /\ True) /\ (u67 = u67 /\ True) /\ True /\
 True /\ True /\ True) /\ (True /\ isGx u0 u1 /\ (smQ u10 /\ smQ u11) /\ smQ u3 /\ smQ u4) /\ ((0 = 0 /\ True) /\ (True /\ (0 = 0 /\ 4 = 4 /\ 4 = 4) /\ True) /\ (4 = 4 /\ 0 = 0 /\ (0 = 0 /\ 2 = 2 /\ 2
 = 2) /\ (0 = 0 /\ 2 = 2 /\ 2 = 2) /\ (0 = 0 /\ 2 = 2 /\ 2 = 2) /\ Z1 u17.4 /\ Z1 u17.5 /\ Z1 u17.6 /\ Z1 u17.7 /\ Z1 u17.8 /\ (0 = 0 /\ 2 = 2 /\ 2 = 2) /\ 0 = 0 /\ (0 = 0 /\ 2 = 2 /\ 2 = 2) /\ (0 = 0
 /\ 2 = 2 /\ 2 = 2) /\ (0 = 0 /\ 2 = 2 /\ 2 = 2) /\ Z1 u18.4 /\ Z1 u18.5 /\ Z1 u18.6 /\ Z1 u18.7 /\ Z1 u18.8 /\ (0 = 0 /\ 2 = 2 /\ 2 = 2) /\ 0 = 0 /\ (0 = 0 /\ 2 = 2 /\ 2 = 2) /\ (0 = 0 /\ 2 = 2 /\ 2 =
 2) /\ (0 = 0 /\ 2 = 2 /\ 2 = 2) /\ Z1 u2.4 /\ Z1 u2.5 /\ Z1 u2.6 /\ Z1 u2.7 /\ Z1 u2.8 /\ (0 = 0 /\ 2 = 2 /\ 2 = 2) /\ 0 = 0 /\ (0 = 0 /\ 2 = 2 /\ 2 = 2) /\ (0 = 0 /\ 2 = 2 /\ 2 = 2) /\ (0 = 0 /\ 2 =
 2 /\ 2 = 2) /\ Z1 u1.4 /\ Z1 u1.5 /\ Z1 u1.6 /\ Z1 u1.7 /\ Z1 u1.8 /\ (0 = 0 /\ 2 = 2 /\ 2 = 2) /\ True) /\ (2 = 2 /\ u19 = u19 /\ u20 = u20 /\ True) /\ (2 = 2 /\ u21 = u21 /\ u22 = u22 /\ True) /\
 (2 = 2 /\ u3 = u3 /\ u4 = u4 /\ True) /\ (2 = 2 /\ u10 = u10 /\ u11 = u11 /\ True) /\ (True /\ True) /\ (True /\ True) /\ (True /\ True) /\ (True /\ True) /\ (True /\ True) /\ (True /\ True) /\ (True
 /\ True) /\ (True /\ True) /\ (True /\ True) /\ (True /\ True) /\ (True /\ True) /\ (True /\ True) /\ (True /\ True /\ (0 = 0 /\ 2 = 2 /\ 2 = 2) /\ Z1 u0.19.1 /\ Z1 u0.19.2 /\ Z1 u0.19.3 /\ Z1 u0.19.4
 /\ Z1 u0.19.5 /\ Z1 u0.19.6 /\ Z1 u0.19.7 /\ Z1 u0.19.8 /\ 0 = 0 /\ (0 = 0 /\ 1 = 1 /\ 1 = 1) /\ (0 = 0 /\ 2 = 2 /\ 2 = 2) /\ True) /\ (True /\ FlatL [Value.int .i64 1, Value.int .i64 1] /\
 [Value.int .i64 1, Value.int .i64 1] = [Value.int .i64 1, Value.int .i64 1]) /\ (True /\ (2 : Int) = 2 /\ (2 : Int) = 2 /\ (0 = 0 /\ 2 = 2 /\ 2 = 2) /\ (0 = 0 /\ 1 = 1 /\ 1 = 1) /\ (0 = 0 /\
 Z1 u0.1 /\ Z1 u0.1) /\ (0 = 0 /\ Z1 u0.2 /\ Z1 u0.2) /\ (0 = 0 /\ Z1 u0.3 /\ Z1 u0.3) /\ (0 = 0 /\ Z1 u0.4 /\ Z1 u0.4) /\ (0 = 0 /\ Z1 u0.5 /\ Z1 u0.5) /\ Z1 u0.6 /\ Z1 u0.7 /\ Z1 u0.8 /\ Z1 u0.9 /\
 Z1 u0.10 /\ True) /\ (True /\ FlatL [Value.int .i32 0, Value.int .i32 0] /\ [Value.int .i32 0, Value.int .i32 0] = [Value.int .i32 0, Value.int .i32 0]) /\ ZF u0.11 /\ ZF u0.12 /\ ZF
 u0.13 /\ ZF u0.14 /\ ZF u0.15 /\ ZF u0.16 /\ ZF u0.17 /\ ZF u0.18 /\ ZF u1.1 /\ ZF u1.2 /\ ZF u1.3 /\ ZF cells2 /\ True) /\ (∀ (b5 : EnM), (∃ (b6 b7 : Nat), isG u0 u1 b6 b7 /\ turnG b6 b7 < (0
 : Int) /\ payR b6 b7 (u10 + u11) b5.1.1 b5.1.2) /\ b5.2 = u3 + b5.1.1 /\ b5.3 = u4 + b5.1.2 -> ∃ (_ : Unit), True /\ true = false /\ True) /\ (∀ (_ : Unit), (∃ (b6 b7 : Nat), isG u0 u1 b6
 b7 /\ (0 : Int) <= turnG b6 b7) -> ∃ (_ : Unit), True /\ true = true /\ True) /\ True) /\ True) /\ True) /\ True) /\ True)) /\ True
end
theorem vc_lsame (a : S4A) : G_lsame a = ((a.1 ≠ a.3 -> (∃ (_ : Unit), True /\ true = false /\ True)) /\ (¬(a.1 ≠ a.3) -> (a.2 ≠ a.4 -> (∃ (_ : Unit), True /\ true = false /\ True)) /\ (¬(a.2 ≠ a.4) -> ∃ (_ : Unit), True /\ true =
true /\ True))) := by kernel_rfl
theorem g_lsame (a : S4A) (hx : a.x = a.u) (hy : a.y = a.v) : GW (G_lsame a) := by
 refine ⟨?_⟩
 rw [vc_lsame]
 (repeat(apply And.intro;focus(and_intros<;>first|trivial|rfl)))
 refine ⟨fun h => absurd hx h, fun _ => ?_⟩
 (repeat(apply And.intro;focus(and_intros<;>first|trivial|rfl)))
 refine ⟨fun h => absurd hy h, fun _ => ?_⟩
 (repeat(apply And.intro;focus(and_intros<;>first|trivial|rfl)))
 refine ⟨(), ?_⟩
 (and_intros<;>first|trivial|rfl)
theorem s_lsame : SpecOK Tryz.prog S_lsame.spec := fun a => specG_at (an := []) envOK (cwX_ok (fun _ h => h) 2) fun hp => g_lsame a hp.1 hp.2
set_option maxHeartbeats 6400000 in
theorem vc_pops (a : MnA) : G_pops a = ((True /\ True) /\ (True /\ QYw5P_26) /\ (∀ (_ : Unit), True -> (True /\ a.5 <= 9223372036854775807 /\ (∀ (x1 : Nat), x1 < a.5 -> ∃ (x2 x3 : Nat), W_G_pops_0 a = W_G_pops_1 x2 x3 /\ actX1 x2
(x3 + x1 * 5))) /\ ((Value.slice a.4 a.5 a.6 = Value.slice a.4 a.5 a.6 /\ True) /\ True) /\ (∀ (_ : Unit), True -> (True /\ True) /\ (True /\ QYw5P_26) /\ (∀ (_ : Unit), True -> ∃ (_ :
Unit), True /\ true = true /\ True) /\ True) /\ (∀ (_ : Unit), Nat.le a.5 40 -> (True /\ (0 <= a.1 /\ a.1 < 256) /\ (0 <= a.2 /\ a.2 < 65536) /\ 0 <= a.3 /\ a.3 < 65536) /\ ((Z1 a.1 /\ (Z1 a.2 /\
Z1 a.3 /\ True) /\ True) /\ QYw5P_26) /\ (∀ (F : GtA), (∃ (S : Nat), (S = 0 ∨ S = 1) /\ (↑S : Int) = a.1 % (2 : Int) /\ isG F.1 F.2 S 0) -> ∀ (ai : Int), ai = (↑a.5 : Int) -> (∃
(i : MnB), ((0 <= i.2 /\ i.2 <= (↑a.5 : Int)) /\ QYw5P_21 i.1.1 /\ i.1.1.3 + i.1.1.4 = a.2 + a.3) /\ (0 = 0 /\ Value.slice a.4 a.5 a.6 = Value.slice a.4 a.5 a.6 /\ (↑a.5 : Int)
= ai /\ i.2 = 0 /\ True) /\ ((True /\ (0 = 0 /\ 1 = 1 /\ 1 = 1) /\ True) /\ (1 = 1 /\ QYw5P_24 i.1.1.2 F.2) /\ (2 = 2 /\ i.1.1.3 = a.2 /\ i.1.1.4 = a.3 /\ True) /\ QYw5P_3 i.1.1.1
F.1 i.1.1.2 F.2) /\ True) /\ (∀ (e : MnB), (0 <= e.2 /\ e.2 <= (↑a.5 : Int)) /\ QYw5P_21 e.1.1 /\ e.1.1.3 + e.1.1.4 = a.2 + a.3 -> (e.2 < (↑a.5 : Int) -> (0 <= e.2 /\
e.2 < (↑a.5 : Int)) /\ (∃ (q aj : Nat), W_G_pops_0 a = W_G_pops_1 q aj /\ ∀ (r : Nat), r = aj + Int.toNat e.2 * 5 -> ∃ (s : Int), FX Proofs.Tryz.prog q (Nat.add r
0) (Value.int .u8 s) /\ ∃ (G : Int), FX Proofs.Tryz.prog q (Nat.add r 1) (Value.int .i64 G) /\ ∃ (t : Int), FX Proofs.Tryz.prog q (Nat.add r 2) (Value.int .i32 t) /\
∃ (U : Int), FX Proofs.Tryz.prog q (Nat.add r 3) (Value.int .u8 U) /\ ∃ (V : Option Addr) (W X : Nat), FX Proofs.Tryz.prog q (Nat.add r 4) (Value.slice V W
X) /\ (True /\ isGx e.1.1.1 e.1.1.2 /\ ((smQ e.1.1.3 /\ smQ e.1.1.4) /\ smQ (Int.ofNat 0) /\ smQ (Int.ofNat 0)) /\ QYw5P_27 s t U /\ twoX V W X) /\ (QYw5P_39 s G
t U V W X /\ (True /\ (0 = 0 /\ 1 = 1 /\ 1 = 1) /\ True) /\ (1 = 1 /\ QYw5P_18 e.1.1.2) /\ QYw5P_33 e.1.1 /\ QYw5P_5 e.1.1) /\ (∀ (ak : MvB), QYw5P_38 e.1.1 s G t
ak.1 -> TA1 e.2 a ak.1 e.1.1.3 e.1.1.4 e.1.1.1) /\ (∀ (ar : TnB), QYw5P_31 ar.1 s e.1.1 G t -> TA1 e.2 a e.1.1.2 e.1.1.3 e.1.1.4 e.1.1.1) /\ (∀ (f :
BgM), begQ (DoA.mk (StA.mk (OuA.mk (0 : Int) (0 : Int) (0 : Int) (0 : Int) (0 : Int) (0 : Int) (0 : Int)) (OuA.mk (0 : Int) (0 : Int) (0 : Int) (0 : Int) (0 : Int) (0 : Int) (0 :
Int)) (OuA.mk (0 : Int) (0 : Int) (0 : Int) (0 : Int) (0 : Int) (0 : Int) (0 : Int)) e.1.1.1 e.1.1.2 e.1.1.3 e.1.1.4) s G t U V W X) (BgB.mk f.1 f.2
f.3) /\ f.4 = e.1.1.3 - f.3.1 /\ f.5 = e.1.1.4 - f.3.2 -> TA2 e.2 a e.1.1.2 f.2 f.4 f.5 f.3.1 f.3.2 e.1.1.1 f.1) /\ True)) /\ (¬(e.2 < (↑a.5 : Int)) ->
(True /\ QYw5P_21 e.1.1) /\ ((0 = 0 /\ True) /\ (True /\ (0 = 0 /\ 1 = 1 /\ 1 = 1) /\ True) /\ (True /\ QYw5P_18 e.1.1.2) /\ QYw5P_34 e.1.1 /\ QYw5P_1 e.1.1.1 e.1.1.2) /\ (∀ (au :
XyB), PayD 0 (PyA.mk e.1.1 e.1.1 e.1.1 e.1.1) au -> RL1 e.1.1.2 e.1.1.3 e.1.1.4 e.1.1.1) /\ True)) /\ (∀ (d : MnB), (0 <= d.2 /\ d.2 <= (↑a.5 : Int)) /\ (QYw5P_21
d.1.1 /\ QYw5P_21 d.1.2) /\ d.1.1.3 + d.1.1.4 + (d.1.2.3 + d.1.2.4) = a.2 + a.3 -> (d.2 < (↑a.5 : Int) -> (0 <= d.2 /\ d.2 < (↑a.5 : Int)) /\ (∃ (u al : Nat),
W_G_pops_0 a = W_G_pops_1 u al /\ ∀ (v : Nat), v = al + Int.toNat d.2 * 5 -> ∃ (j : Int), FX Proofs.Tryz.prog u (Nat.add v 0) (Value.int .u8 j) /\ ∃ (w : Int), FX
Proofs.Tryz.prog u (Nat.add v 1) (Value.int .i64 w) /\ ∃ (k : Int), FX Proofs.Tryz.prog u (Nat.add v 2) (Value.int .i32 k) /\ ∃ (H : Int), FX Proofs.Tryz.prog u
(Nat.add v 3) (Value.int .u8 H) /\ ∃ (I : Option Addr) (J K : Nat), FX Proofs.Tryz.prog u (Nat.add v 4) (Value.slice I J K) /\ (True /\ isGx d.1.2.1 d.1.2.2 /\
((smQ d.1.2.3 /\ smQ d.1.2.4) /\ smQ d.1.1.3 /\ smQ d.1.1.4) /\ QYw5P_27 j k H /\ twoX I J K) /\ (QYw5P_39 j w k H I J K /\ (True /\ (0 = 0 /\ 2 = 2 /\ 2 =
2) /\ True) /\ (2 = 2 /\ QYw5P_6 d.1.1.2 d.1.2.2) /\ QYw5P_33 d.1.1 /\ QYw5P_33 d.1.2 /\ (True /\ True) /\ (True /\ True) /\ (True /\ True) /\ (True /\ True) /\ QYw5P_5 d.1.2) /\ (∀
(am : MvB), QYw5P_38 d.1.2 j w k am.1 -> TA2 d.2 a d.1.1.2 am.1 d.1.1.3 d.1.1.4 d.1.2.3 d.1.2.4 d.1.1.1 d.1.2.1) /\ (∀ (av : TnB), QYw5P_31 av.1 j
d.1.2 w k -> TA2 d.2 a d.1.1.2 d.1.2.2 d.1.1.3 d.1.1.4 d.1.2.3 d.1.2.4 d.1.1.1 d.1.2.1) /\ (∀ (g : BgM), begQ (DoA.mk (StA.mk (OuA.mk d.1.1.2.4
d.1.1.2.5 d.1.1.2.6 d.1.1.2.7 d.1.1.2.8 d.1.1.3 d.1.1.4) (OuA.mk (0 : Int) (0 : Int) (0 : Int) (0 : Int) (0 : Int) (0 : Int) (0 : Int)) (OuA.mk (0 : Int) (0 : Int) (0 :
Int) (0 : Int) (0 : Int) (0 : Int) (0 : Int)) d.1.2.1 d.1.2.2 d.1.2.3 d.1.2.4) j w k H I J K) (BgB.mk g.1 g.2 g.3) /\ g.4 = d.1.2.3 - g.3.1 /\ g.5
= d.1.2.4 - g.3.2 -> TA3 d.2 a d.1.1.2 d.1.2.2 g.2 d.1.1.3 d.1.1.4 g.4 g.5 g.3.1 g.3.2 d.1.1.1 d.1.2.1 g.1) /\ (∀ (l : EnM), endQ (DoA.mk (StA.mk
(OuA.mk d.1.1.2.4 d.1.1.2.5 d.1.1.2.6 d.1.1.2.7 d.1.1.2.8 d.1.1.3 d.1.1.4) (OuA.mk (0 : Int) (0 : Int) (0 : Int) (0 : Int) (0 : Int) (0 : Int) (0 : Int)) (OuA.mk (0 :
Int) (0 : Int) (0 : Int) (0 : Int) (0 : Int) (0 : Int) (0 : Int)) d.1.2.1 d.1.2.2 d.1.2.3 d.1.2.4) j w k H I J K) l.1 /\ l.2 = d.1.1.3 + l.1.1 /\ l.3
= d.1.1.4 + l.1.2 -> TA1 d.2 a d.1.1.2 l.2 l.3 d.1.1.1) /\ True)) /\ (¬(d.2 < (↑a.5 : Int)) -> (True /\ QYw5P_21 d.1.1 /\ QYw5P_21 d.1.2) /\ ((0 = 0 /\ True) /\ (True /\
(0 = 0 /\ 2 = 2 /\ 2 = 2) /\ True) /\ (True /\ QYw5P_6 d.1.1.2 d.1.2.2) /\ QYw5P_34 d.1.1 /\ QYw5P_34 d.1.2 /\ QYw5P_7 d.1.1.1 d.1.1.2 d.1.2.1 d.1.2.2) /\ (∀ (ac : XyB),
PayD 1 (PyA.mk d.1.1 d.1.2 d.1.1 d.1.1) ac -> RL2 d.1.2.1 d.1.2.2 d.1.1.2 d.1.1.3 d.1.1.4 (W_G_pops_2 d) (W_G_pops_2 d) (W_G_pops_2 d) (W_G_pops_3 d)
(W_G_pops_3 d) d.1.2.3 d.1.2.4 (W_G_pops_2 d) (W_G_pops_2 d) (W_G_pops_2 d) (W_G_pops_4 d) (W_G_pops_4 d) (W_G_pops_5 d) (W_G_pops_5 d) (W_G_pops_5 d)
(W_G_pops_6 d) (W_G_pops_6 d) (W_G_pops_7 d) (W_G_pops_8 d) (W_G_pops_8 d) d.1.1.1 ac.1 ac.2 (W_G_pops_7 d) (W_G_pops_8 d) (W_G_pops_8 d) (W_G_pops_9 d)
(W_G_pops_9 d) (W_G_pops_9 d) (W_G_pops_10 d) (W_G_pops_10 d) (W_G_pops_2 d) (W_G_pops_2 d) (W_G_pops_2 d) (W_G_pops_3 d) (W_G_pops_3 d) (W_G_pops_2 d)
(W_G_pops_2 d) (W_G_pops_2 d) (W_G_pops_4 d) (W_G_pops_4 d)) /\ True)) /\ (∀ (c : MnB), (0 <= c.2 /\ c.2 <= (↑a.5 : Int)) /\ (QYw5P_21 c.1.1 /\ QYw5P_21 c.1.2 /\
QYw5P_21 c.1.3) /\ c.1.1.3 + c.1.1.4 + (c.1.2.3 + c.1.2.4) + (c.1.3.3 + c.1.3.4) = a.2 + a.3 -> (c.2 < (↑a.5 : Int) -> (0 <= c.2 /\ c.2 < (↑a.5 : Int)) /\
(∃ (x an : Nat), W_G_pops_0 a = W_G_pops_1 x an /\ ∀ (y : Nat), y = an + Int.toNat c.2 * 5 -> ∃ (m : Int), FX Proofs.Tryz.prog x (Nat.add y 0)
(Value.int .u8 m) /\ ∃ (z : Int), FX Proofs.Tryz.prog x (Nat.add y 1) (Value.int .i64 z) /\ ∃ (n : Int), FX Proofs.Tryz.prog x (Nat.add y 2) (Value.int .i32
n) /\ ∃ (L : Int), FX Proofs.Tryz.prog x (Nat.add y 3) (Value.int .u8 L) /\ ∃ (M : Option Addr) (O Q : Nat), FX Proofs.Tryz.prog x (Nat.add y 4)
(Value.slice M O Q) /\ (True /\ isGx c.1.3.1 c.1.3.2 /\ ((smQ c.1.3.3 /\ smQ c.1.3.4) /\ smQ c.1.2.3 /\ smQ c.1.2.4) /\ QYw5P_27 m n L /\ twoX M O
Q) /\ (QYw5P_39 m z n L M O Q /\ (True /\ (0 = 0 /\ 3 = 3 /\ 3 = 3) /\ True) /\ (3 = 3 /\ QYw5P_19 c.1.1.2 c.1.2.2 c.1.3.2) /\ QYw5P_33 c.1.1 /\ QYw5P_33
c.1.2 /\ QYw5P_33 c.1.3 /\ QYw5P_44 c.1.3) /\ (∀ (ao : MvB), QYw5P_38 c.1.3 m z n ao.1 -> TA3 c.2 a c.1.1.2 c.1.2.2 ao.1 c.1.1.3 c.1.1.4
c.1.2.3 c.1.2.4 c.1.3.3 c.1.3.4 c.1.1.1 c.1.2.1 c.1.3.1) /\ (∀ (aw : TnB), QYw5P_31 aw.1 m c.1.3 z n -> TA3 c.2 a c.1.1.2 c.1.2.2
c.1.3.2 c.1.1.3 c.1.1.4 c.1.2.3 c.1.2.4 c.1.3.3 c.1.3.4 c.1.1.1 c.1.2.1 c.1.3.1) /\ (∀ (h : BgM), begQ (DoA.mk (StA.mk (OuA.mk c.1.1.2.4
c.1.1.2.5 c.1.1.2.6 c.1.1.2.7 c.1.1.2.8 c.1.1.3 c.1.1.4) (OuA.mk c.1.2.2.4 c.1.2.2.5 c.1.2.2.6 c.1.2.2.7 c.1.2.2.8 c.1.2.3 c.1.2.4) (OuA.mk
(0 : Int) (0 : Int) (0 : Int) (0 : Int) (0 : Int) (0 : Int) (0 : Int)) c.1.3.1 c.1.3.2 c.1.3.3 c.1.3.4) m z n L M O Q) (BgB.mk h.1 h.2
h.3) /\ h.4 = c.1.3.3 - h.3.1 /\ h.5 = c.1.3.4 - h.3.2 -> TA4 c.2 a c.1.1.2 c.1.2.2 c.1.3.2 h.2 c.1.1.3 c.1.1.4 c.1.2.3 c.1.2.4 h.4
h.5 h.3.1 h.3.2 c.1.1.1 c.1.2.1 c.1.3.1 h.1) /\ (∀ (o : EnM), endQ (DoA.mk (StA.mk (OuA.mk c.1.1.2.4 c.1.1.2.5 c.1.1.2.6 c.1.1.2.7 c.1.1.2.8
c.1.1.3 c.1.1.4) (OuA.mk c.1.2.2.4 c.1.2.2.5 c.1.2.2.6 c.1.2.2.7 c.1.2.2.8 c.1.2.3 c.1.2.4) (OuA.mk (0 : Int) (0 : Int) (0 : Int) (0 : Int) (0 : Int) (0
: Int) (0 : Int)) c.1.3.1 c.1.3.2 c.1.3.3 c.1.3.4) m z n L M O Q) o.1 /\ o.2 = c.1.2.3 + o.1.1 /\ o.3 = c.1.2.4 + o.1.2 -> TA2
c.2 a c.1.1.2 c.1.2.2 c.1.1.3 c.1.1.4 o.2 o.3 c.1.1.1 c.1.2.1) /\ True)) /\ (¬(c.2 < (↑a.5 : Int)) -> (True /\ QYw5P_21 c.1.1 /\ QYw5P_21 c.1.2 /\
QYw5P_21 c.1.3) /\ ((0 = 0 /\ True) /\ (True /\ (0 = 0 /\ 3 = 3 /\ 3 = 3) /\ True) /\ (True /\ QYw5P_19 c.1.1.2 c.1.2.2 c.1.3.2) /\ QYw5P_34 c.1.1 /\ QYw5P_34 c.1.2 /\
QYw5P_34 c.1.3 /\ QYw5P_15 c.1.1.1 /\ QYw5P_16 /\ QYw5P_10 c.1.1.1 /\ QYw5P_17 /\ ZF c.1.1.1.11 /\ ZF c.1.1.1.12 /\ ZF c.1.1.1.13 /\ ZF c.1.1.1.14 /\ ZF c.1.1.1.15 /\
ZF c.1.1.1.16 /\ ZF c.1.1.1.17 /\ ZF c.1.1.1.18 /\ ZF c.1.1.2.1 /\ ZF c.1.1.2.2 /\ ZF c.1.1.2.3 /\ QYw5P_7 c.1.2.1 c.1.2.2 c.1.3.1 c.1.3.2) /\ (∀ (ad :
XyB), PayD 2 (PyA.mk c.1.1 c.1.2 c.1.3 c.1.1) ad -> RL3 c.1.3.1 c.1.3.2 c.1.2.2 c.1.2.3 c.1.2.4 (W_G_pops_11 c) (W_G_pops_11 c) (W_G_pops_11 c)
(W_G_pops_12 c) (W_G_pops_12 c) c.1.3.3 c.1.3.4 (W_G_pops_11 c) (W_G_pops_11 c) (W_G_pops_11 c) (W_G_pops_13 c) (W_G_pops_13 c) c.1.1.2 c.1.1.3
c.1.1.4 (W_G_pops_9 c) (W_G_pops_9 c) (W_G_pops_9 c) (W_G_pops_14 c) (W_G_pops_14 c) (W_G_pops_15 c) (W_G_pops_16 c) (W_G_pops_16 c) c.1.1.1
c.1.2.1 ad.1 ad.2 (W_G_pops_15 c) (W_G_pops_16 c) (W_G_pops_16 c) (W_G_pops_17 c) (W_G_pops_18 c) (W_G_pops_5 c) (W_G_pops_19 c) (W_G_pops_20 c)
(W_G_pops_21 c) (W_G_pops_22 c) (W_G_pops_23 c) (W_G_pops_23 c) (W_G_pops_23 c) (W_G_pops_24 c) (W_G_pops_24 c) (W_G_pops_11 c) (W_G_pops_11 c)
(W_G_pops_11 c) (W_G_pops_12 c) (W_G_pops_12 c) (W_G_pops_11 c) (W_G_pops_11 c) (W_G_pops_11 c) (W_G_pops_13 c) (W_G_pops_13 c)) /\ True)) /\ (∀ (b : MnB),
(0 <= b.2 /\ b.2 <= (↑a.5 : Int)) /\ (QYw5P_21 b.1.1 /\ QYw5P_21 b.1.2 /\ QYw5P_21 b.1.3 /\ QYw5P_21 b.1.4) /\ b.1.1.3 + b.1.1.4 + (b.1.2.3 + b.1.2.4) +
(b.1.3.3 + b.1.3.4) + (b.1.4.3 + b.1.4.4) = a.2 + a.3 -> (b.2 < (↑a.5 : Int) -> (0 <= b.2 /\ b.2 < (↑a.5 : Int)) /\ (∃ (A ap : Nat), W_G_pops_0 a = W_G_pops_1
A ap /\ ∀ (B : Nat), B = ap + Int.toNat b.2 * 5 -> ∃ (C : Int), FX Proofs.Tryz.prog A (Nat.add B 0) (Value.int .u8 C) /\ ∃ (R : Int), FX
Proofs.Tryz.prog A (Nat.add B 1) (Value.int .i64 R) /\ ∃ (D : Int), FX Proofs.Tryz.prog A (Nat.add B 2) (Value.int .i32 D) /\ ∃ (Y : Int), FX Proofs.Tryz.prog
A (Nat.add B 3) (Value.int .u8 Y) /\ ∃ (Z : Option Addr) (aa ab : Nat), FX Proofs.Tryz.prog A (Nat.add B 4) (Value.slice Z aa ab) /\ (True /\ isGx
b.1.4.1 b.1.4.2 /\ ((smQ b.1.4.3 /\ smQ b.1.4.4) /\ smQ b.1.3.3 /\ smQ b.1.3.4) /\ QYw5P_27 C D Y /\ twoX Z aa ab) /\ (QYw5P_39 C R D Y Z
aa ab /\ (True /\ (0 = 0 /\ 4 = 4 /\ 4 = 4) /\ True) /\ (4 = 4 /\ QYw5P_32 b.1) /\ QYw5P_33 b.1.1 /\ QYw5P_33 b.1.2 /\ QYw5P_33 b.1.3 /\ QYw5P_33 b.1.4 /\ (True /\ True) /\
(True /\ True) /\ (True /\ True) /\ (True /\ True) /\ QYw5P_44 b.1.4) /\ (∀ (aq : MvB), QYw5P_38 b.1.4 C R D aq.1 -> TA4 b.2 a b.1.1.2 b.1.2.2 b.1.3.2 aq.1
b.1.1.3 b.1.1.4 b.1.2.3 b.1.2.4 b.1.3.3 b.1.3.4 b.1.4.3 b.1.4.4 b.1.1.1 b.1.2.1 b.1.3.1 b.1.4.1) /\ (∀ (ax : TnB), QYw5P_31 ax.1 C
b.1.4 R D -> TA4 b.2 a b.1.1.2 b.1.2.2 b.1.3.2 b.1.4.2 b.1.1.3 b.1.1.4 b.1.2.3 b.1.2.4 b.1.3.3 b.1.3.4 b.1.4.3 b.1.4.4 b.1.1.1
b.1.2.1 b.1.3.1 b.1.4.1) /\ (∀ (p : EnM), endQ (DoA.mk (StA.mk (OuA.mk b.1.1.2.4 b.1.1.2.5 b.1.1.2.6 b.1.1.2.7 b.1.1.2.8 b.1.1.3 b.1.1.4) (OuA.mk
b.1.2.2.4 b.1.2.2.5 b.1.2.2.6 b.1.2.2.7 b.1.2.2.8 b.1.2.3 b.1.2.4) (OuA.mk b.1.3.2.4 b.1.3.2.5 b.1.3.2.6 b.1.3.2.7 b.1.3.2.8 b.1.3.3
b.1.3.4) b.1.4.1 b.1.4.2 b.1.4.3 b.1.4.4) C R D Y Z aa ab) p.1 /\ p.2 = b.1.3.3 + p.1.1 /\ p.3 = b.1.3.4 + p.1.2 -> TA3 b.2 a
b.1.1.2 b.1.2.2 b.1.3.2 b.1.1.3 b.1.1.4 b.1.2.3 b.1.2.4 p.2 p.3 b.1.1.1 b.1.2.1 b.1.3.1) /\ True)) /\ (¬(b.2 < (↑a.5 : Int)) -> (True /\ QYw5P_21
b.1.1 /\ QYw5P_21 b.1.2 /\ QYw5P_21 b.1.3 /\ QYw5P_21 b.1.4) /\ ((0 = 0 /\ True) /\ (True /\ (0 = 0 /\ 4 = 4 /\ 4 = 4) /\ True) /\ (True /\ QYw5P_32 b.1) /\ QYw5P_34 b.1.1 /\
QYw5P_34 b.1.2 /\ QYw5P_34 b.1.3 /\ QYw5P_34 b.1.4 /\ QYw5P_15 b.1.1.1 /\ QYw5P_16 /\ QYw5P_10 b.1.1.1 /\ QYw5P_17 /\ ZF b.1.1.1.11 /\ ZF b.1.1.1.12 /\ ZF b.1.1.1.13
/\ ZF b.1.1.1.14 /\ ZF b.1.1.1.15 /\ ZF b.1.1.1.16 /\ ZF b.1.1.1.17 /\ ZF b.1.1.1.18 /\ ZF b.1.1.2.1 /\ ZF b.1.1.2.2 /\ ZF b.1.1.2.3 /\ QYw5P_15 b.1.2.1 /\
QYw5P_16 /\ QYw5P_10 b.1.2.1 /\ QYw5P_17 /\ ZF b.1.2.1.11 /\ ZF b.1.2.1.12 /\ ZF b.1.2.1.13 /\ ZF b.1.2.1.14 /\ ZF b.1.2.1.15 /\ ZF b.1.2.1.16 /\ ZF b.1.2.1.17 /\ ZF
b.1.2.1.18 /\ ZF b.1.2.2.1 /\ ZF b.1.2.2.2 /\ ZF b.1.2.2.3 /\ QYw5P_7 b.1.3.1 b.1.3.2 b.1.4.1 b.1.4.2) /\ (∀ (ae : XyB), PayD 3 b.1 ae -> RL4 b.1.4.1
b.1.4.2 b.1.3.2 b.1.3.3 b.1.3.4 (W_G_pops_25 b) (W_G_pops_25 b) (W_G_pops_25 b) (W_G_pops_26 b) (W_G_pops_26 b) b.1.4.3 b.1.4.4 (W_G_pops_25 b)
(W_G_pops_25 b) (W_G_pops_25 b) (W_G_pops_27 b) (W_G_pops_27 b) b.1.1.2 b.1.2.2 b.1.1.3 b.1.1.4 b.1.2.3 b.1.2.4 (W_G_pops_23 b) (W_G_pops_23 b)
(W_G_pops_23 b) (W_G_pops_28 b) (W_G_pops_28 b) (W_G_pops_29 b) (W_G_pops_30 b) (W_G_pops_30 b) b.1.1.1 b.1.2.1 b.1.3.1 ae.1 ae.2 (W_G_pops_29 b)
(W_G_pops_30 b) (W_G_pops_30 b) (W_G_pops_31 b) (W_G_pops_32 b) (W_G_pops_9 b) (W_G_pops_33 b) (W_G_pops_34 b) (W_G_pops_35 b) (W_G_pops_36 b)
(W_G_pops_37 b) (W_G_pops_5 b) (W_G_pops_38 b) (W_G_pops_39 b) (W_G_pops_40 b) (W_G_pops_41 b) (W_G_pops_42 b) (W_G_pops_43 b) (W_G_pops_43 b)
(W_G_pops_43 b) (W_G_pops_44 b) (W_G_pops_44 b) (W_G_pops_25 b) (W_G_pops_25 b) (W_G_pops_25 b) (W_G_pops_26 b) (W_G_pops_26 b) (W_G_pops_25 b)
(W_G_pops_25 b) (W_G_pops_25 b) (W_G_pops_27 b) (W_G_pops_27 b)) /\ True)) /\ True) /\ True) /\ True) /\ True) := by kernel_rfl
set_option maxHeartbeats 4000000 in
theorem ta1 (i : Int) (a : MnA) (p1 : PoA) (x1 : Int) (y1 : Int) (g1 : RuA) (i1 : 0 <= i) (hlt : i < a.l) (hla : (a.l : Int) <= 9223372036854775807) (G1 : isGx g1 p1) (X1 : smQ x1) (Y1 : smQ y1) (tot : (x1 + y1) = a.x + a.y) : TA1 i a p1 x1 y1 g1 := by
 obtain ⟨k1, j1, h1⟩ := G1
 obtain ⟨v11, v12, v13, v14, v15, v16, v17, v18, v19, v110, v111⟩ := flG_of h1
 obtain ⟨s11, s12⟩ := X1
 obtain ⟨s13, s14⟩ := Y1
 have f12 := fl11
 have f13 := fl00
 have gl0 : FlatL cells0 := flatAll (by kernel_rfl)
 have gl1 : FlatL cells1 := flatAll (by kernel_rfl)
 have gl2 : FlatL cells2 := flatAll (by kernel_rfl)
 have gl4 : FlatL cells4 := flatAll (by kernel_rfl)
 have gl5 : FlatL cells5 := flatAll (by kernel_rfl)
 have gl6 : FlatL cells6 := flatAll (by kernel_rfl)
 have gl8 : FlatL cells8 := flatAll (by kernel_rfl)
 have gl9 : FlatL cells9 := flatAll (by kernel_rfl)
 have gl10 : FlatL cells10 := flatAll (by kernel_rfl)
 unfold TA1
 (repeat(apply And.intro;focus(and_intros<;>first|trivial|rfl)))
 intro y6_ e6
 rw [wr64 (by omega)] at e6
 have e6 := e6.symm
 refine ⟨⟨⟨⟨g1, p1, x1, y1⟩, ⟨g1, p1, x1, y1⟩, ⟨g1, p1, x1, y1⟩, ⟨g1, p1, x1, y1⟩⟩, i + 1⟩, ⟨⟨by show 0 <= i + 1; omega, by show i + 1 <= (a.l : Int); omega⟩, ⟨⟨k1, j1, h1⟩, smI s11 s12, smI s13 s14⟩, by show (x1 + y1) = a.x + a.y; omega⟩, by show ((a.l : Int) - (i + 1)).toNat < ((a.l : Int) - i).toNat; omega, ?_⟩
 (and_intros<;>first|trivial|rfl)
set_option maxHeartbeats 4000000 in
theorem ta2 (i : Int) (a : MnA) (p1 : PoA) (p2 : PoA) (x1 : Int) (y1 : Int) (x2 : Int) (y2 : Int) (g1 : RuA) (g2 : RuA) (i1 : 0 <= i) (hlt : i < a.l) (hla : (a.l : Int) <= 9223372036854775807) (G1 : isGx g1 p1) (X1 : smQ x1) (Y1 : smQ y1) (G2 : isGx g2 p2) (X2 : smQ x2) (Y2 : smQ y2) (tot : (x1 + y1) + (x2 + y2) = a.x + a.y) : TA2 i a p1 p2 x1 y1 x2 y2 g1 g2 := by
 obtain ⟨k1, j1, h1⟩ := G1
 obtain ⟨v11, v12, v13, v14, v15, v16, v17, v18, v19, v110, v111⟩ := flG_of h1
 obtain ⟨s11, s12⟩ := X1
 obtain ⟨s13, s14⟩ := Y1
 obtain ⟨k2, j2, h2⟩ := G2
 obtain ⟨v21, v22, v23, v24, v25, v26, v27, v28, v29, v210, v211⟩ := flG_of h2
 obtain ⟨s21, s22⟩ := X2
 obtain ⟨s23, s24⟩ := Y2
 have f12 := fl11
 have f13 := fl00
 have gl0 : FlatL cells0 := flatAll (by kernel_rfl)
 have gl1 : FlatL cells1 := flatAll (by kernel_rfl)
 have gl2 : FlatL cells2 := flatAll (by kernel_rfl)
 have gl4 : FlatL cells4 := flatAll (by kernel_rfl)
 have gl5 : FlatL cells5 := flatAll (by kernel_rfl)
 have gl6 : FlatL cells6 := flatAll (by kernel_rfl)
 have gl8 : FlatL cells8 := flatAll (by kernel_rfl)
 have gl9 : FlatL cells9 := flatAll (by kernel_rfl)
 have gl10 : FlatL cells10 := flatAll (by kernel_rfl)
 unfold TA2
 (repeat(apply And.intro;focus(and_intros<;>first|trivial|rfl)))
 intro y6_ e6
 rw [wr64 (by omega)] at e6
 have e6 := e6.symm
 refine ⟨⟨⟨⟨g1, p1, x1, y1⟩, ⟨g2, p2, x2, y2⟩, ⟨g1, p1, x1, y1⟩, ⟨g1, p1, x1, y1⟩⟩, i + 1⟩, ⟨⟨by show 0 <= i + 1; omega, by show i + 1 <= (a.l : Int); omega⟩, ⟨⟨⟨k1, j1, h1⟩, smI s11 s12, smI s13 s14⟩, ⟨⟨k2, j2, h2⟩, smI s21 s22, smI s23 s24⟩⟩, by show (x1 + y1) + (x2 + y2) = a.x + a.y; omega⟩, by show ((a.l : Int) - (i + 1)).toNat < ((a.l : Int) - i).toNat; omega, ?_⟩
 (and_intros<;>first|trivial|rfl)
set_option maxHeartbeats 4000000 in
theorem ta3 (i : Int) (a : MnA) (p1 : PoA) (p2 : PoA) (p3 : PoA) (x1 : Int) (y1 : Int) (x2 : Int) (y2 : Int) (x3 : Int) (y3 : Int) (g1 : RuA) (g2 : RuA) (g3 : RuA) (i1 : 0 <= i) (hlt : i < a.l) (hla : (a.l : Int) <= 9223372036854775807) (G1 : isGx g1 p1) (X1 : smQ x1) (Y1 : smQ y1) (G2 : isGx g2 p2) (X2 : smQ x2) (Y2 : smQ y2) (G3 : isGx g3 p3) (X3 : smQ x3) (Y3 : smQ y3) (tot : (x1 + y1) + (x2 + y2) + (x3 + y3) = a.x + a.y) : TA3 i a p1 p2 p3 x1 y1 x2 y2 x3 y3 g1 g2 g3 := by
 obtain ⟨k1, j1, h1⟩ := G1
 obtain ⟨v11, v12, v13, v14, v15, v16, v17, v18, v19, v110, v111⟩ := flG_of h1
 obtain ⟨s11, s12⟩ := X1
 obtain ⟨s13, s14⟩ := Y1
 obtain ⟨k2, j2, h2⟩ := G2
 obtain ⟨v21, v22, v23, v24, v25, v26, v27, v28, v29, v210, v211⟩ := flG_of h2
 obtain ⟨s21, s22⟩ := X2
 obtain ⟨s23, s24⟩ := Y2
 obtain ⟨k3, j3, h3⟩ := G3
 obtain ⟨v31, v32, v33, v34, v35, v36, v37, v38, v39, v310, v311⟩ := flG_of h3
 obtain ⟨s31, s32⟩ := X3
 obtain ⟨s33, s34⟩ := Y3
 have f12 := fl11
 have f13 := fl00
 have gl0 : FlatL cells0 := flatAll (by kernel_rfl)
 have gl1 : FlatL cells1 := flatAll (by kernel_rfl)
 have gl2 : FlatL cells2 := flatAll (by kernel_rfl)
 have gl4 : FlatL cells4 := flatAll (by kernel_rfl)
 have gl5 : FlatL cells5 := flatAll (by kernel_rfl)
 have gl6 : FlatL cells6 := flatAll (by kernel_rfl)
 have gl8 : FlatL cells8 := flatAll (by kernel_rfl)
 have gl9 : FlatL cells9 := flatAll (by kernel_rfl)
 have gl10 : FlatL cells10 := flatAll (by kernel_rfl)
 unfold TA3
 (repeat(apply And.intro;focus(and_intros<;>first|trivial|rfl)))
 intro y6_ e6
 rw [wr64 (by omega)] at e6
 have e6 := e6.symm
 refine ⟨⟨⟨⟨g1, p1, x1, y1⟩, ⟨g2, p2, x2, y2⟩, ⟨g3, p3, x3, y3⟩, ⟨g1, p1, x1, y1⟩⟩, i + 1⟩, ⟨⟨by show 0 <= i + 1; omega, by show i + 1 <= (a.l : Int); omega⟩, ⟨⟨⟨k1, j1, h1⟩, smI s11 s12, smI s13 s14⟩, ⟨⟨k2, j2, h2⟩, smI s21 s22, smI s23 s24⟩, ⟨⟨k3, j3, h3⟩, smI s31 s32, smI s33 s34⟩⟩, by show (x1 + y1) + (x2 + y2) + (x3 + y3) = a.x + a.y; omega⟩, by show ((a.l : Int) - (i + 1)).toNat < ((a.l : Int) - i).toNat; omega, ?_⟩
 (and_intros<;>first|trivial|rfl)
set_option maxHeartbeats 4000000 in
theorem ta4 (i : Int) (a : MnA) (p1 : PoA) (p2 : PoA) (p3 : PoA) (p4 : PoA) (x1 : Int) (y1 : Int) (x2 : Int) (y2 : Int) (x3 : Int) (y3 : Int) (x4 : Int) (y4 : Int) (g1 : RuA) (g2 : RuA) (g3 : RuA) (g4 : RuA) (i1 : 0 <= i) (hlt : i < a.l) (hla : (a.l : Int) <= 9223372036854775807) (G1 : isGx g1 p1) (X1 : smQ x1) (Y1 : smQ y1) (G2 : isGx g2 p2) (X2 : smQ x2) (Y2 : smQ y2) (G3 : isGx g3 p3) (X3 : smQ x3) (Y3 : smQ y3) (G4 : isGx g4 p4) (X4 : smQ x4) (Y4 : smQ y4) (tot : (x1 + y1) + (x2 + y2) + (x3 + y3) + (x4 + y4) = a.x + a.y) : TA4 i a p1 p2 p3 p4 x1 y1 x2 y2 x3 y3 x4 y4 g1 g2 g3 g4 := by
 obtain ⟨k1, j1, h1⟩ := G1
 obtain ⟨v11, v12, v13, v14, v15, v16, v17, v18, v19, v110, v111⟩ := flG_of h1
 obtain ⟨s11, s12⟩ := X1
 obtain ⟨s13, s14⟩ := Y1
 obtain ⟨k2, j2, h2⟩ := G2
 obtain ⟨v21, v22, v23, v24, v25, v26, v27, v28, v29, v210, v211⟩ := flG_of h2
 obtain ⟨s21, s22⟩ := X2
 obtain ⟨s23, s24⟩ := Y2
 obtain ⟨k3, j3, h3⟩ := G3
 obtain ⟨v31, v32, v33, v34, v35, v36, v37, v38, v39, v310, v311⟩ := flG_of h3
 obtain ⟨s31, s32⟩ := X3
 obtain ⟨s33, s34⟩ := Y3
 obtain ⟨k4, j4, h4⟩ := G4
 obtain ⟨v41, v42, v43, v44, v45, v46, v47, v48, v49, v410, v411⟩ := flG_of h4
 obtain ⟨s41, s42⟩ := X4
 obtain ⟨s43, s44⟩ := Y4
 have f12 := fl11
 have f13 := fl00
 have gl0 : FlatL cells0 := flatAll (by kernel_rfl)
 have gl1 : FlatL cells1 := flatAll (by kernel_rfl)
 have gl2 : FlatL cells2 := flatAll (by kernel_rfl)
 have gl4 : FlatL cells4 := flatAll (by kernel_rfl)
 have gl5 : FlatL cells5 := flatAll (by kernel_rfl)
 have gl6 : FlatL cells6 := flatAll (by kernel_rfl)
 have gl8 : FlatL cells8 := flatAll (by kernel_rfl)
 have gl9 : FlatL cells9 := flatAll (by kernel_rfl)
 have gl10 : FlatL cells10 := flatAll (by kernel_rfl)
 unfold TA4
 (repeat(apply And.intro;focus(and_intros<;>first|trivial|rfl)))
 intro y6_ e6
 rw [wr64 (by omega)] at e6
 have e6 := e6.symm
 refine ⟨⟨⟨⟨g1, p1, x1, y1⟩, ⟨g2, p2, x2, y2⟩, ⟨g3, p3, x3, y3⟩, ⟨g4, p4, x4, y4⟩⟩, i + 1⟩, ⟨⟨by show 0 <= i + 1; omega, by show i + 1 <= (a.l : Int); omega⟩, ⟨⟨⟨k1, j1, h1⟩, smI s11 s12, smI s13 s14⟩, ⟨⟨k2, j2, h2⟩, smI s21 s22, smI s23 s24⟩, ⟨⟨k3, j3, h3⟩, smI s31 s32, smI s33 s34⟩, ⟨⟨k4, j4, h4⟩, smI s41 s42, smI s43 s44⟩⟩, by show (x1 + y1) + (x2 + y2) + (x3 + y3) + (x4 + y4) = a.x + a.y; omega⟩, by show ((a.l : Int) - (i + 1)).toNat < ((a.l : Int) - i).toNat; omega, ?_⟩
 (and_intros<;>first|trivial|rfl)
set_option maxHeartbeats 16000000 in
theorem rl1 (p1 : PoA) (x1 : Int) (y1 : Int) (g1 : RuA) (G1 : isGx g1 p1) (X1 : smQ x1) (Y1 : smQ y1) : RL1 p1 x1 y1 g1 := by
 obtain ⟨k1, j1, h1⟩ := G1
 obtain ⟨v11, v12, v13, v14, v15, v16, v17, v18, v19, v110, v111⟩ := flG_of h1
 obtain ⟨s11, s12⟩ := X1
 obtain ⟨s13, s14⟩ := Y1
 have f12 := fl11
 have f13 := fl00
 have gl0 : FlatL cells0 := flatAll (by kernel_rfl)
 have gl1 : FlatL cells1 := flatAll (by kernel_rfl)
 have gl2 : FlatL cells2 := flatAll (by kernel_rfl)
 have gl4 : FlatL cells4 := flatAll (by kernel_rfl)
 have gl5 : FlatL cells5 := flatAll (by kernel_rfl)
 have gl6 : FlatL cells6 := flatAll (by kernel_rfl)
 have gl8 : FlatL cells8 := flatAll (by kernel_rfl)
 have gl9 : FlatL cells9 := flatAll (by kernel_rfl)
 have gl10 : FlatL cells10 := flatAll (by kernel_rfl)
 have t1 := fl2t x1 y1
 unfold RL1
 (repeat(apply And.intro;focus(and_intros<;>first|trivial|rfl)))
 refine ⟨fun _ _ => ?_, trivial⟩
 (repeat(apply And.intro;focus(and_intros<;>first|trivial|rfl)))
 refine ⟨⟨trivial, k1, j1, h1⟩, by (and_intros<;>first|trivial|rfl), fun t ht => ?_, trivial⟩
 obtain ⟨k', j', hi', ht⟩ := ht
 obtain ⟨rfl, rfl⟩ := isG_inj h1 hi'
 (repeat(apply And.intro;focus(and_intros<;>first|trivial|rfl)))
 refine ⟨fun h0 => ?_, fun h0 => ?_⟩
 ·refine ⟨(), ?_⟩
  (and_intros<;>first|trivial|rfl)
 (repeat(apply And.intro;focus(and_intros<;>first|trivial|rfl)))
 refine ⟨fun _ _ => ?_, trivial⟩
 (repeat(apply And.intro;focus(and_intros<;>first|trivial|rfl)))
 refine ⟨⟨trivial, ⟨⟨k1, j1, h1⟩, smI s11 s12, smI s13 s14⟩⟩, by (and_intros<;>first|trivial|rfl), fun q hq => ?_, trivial⟩
 obtain ⟨e1, e2⟩ := pops1 h1 (fun e => h0 (ht.trans e)) hq
 (repeat(apply And.intro;focus(and_intros<;>first|trivial|rfl)))
 refine ⟨⟨trivial, e1.symm, e2.symm⟩, by (and_intros<;>first|trivial|rfl), fun _ _ => ?_, trivial⟩
 (repeat(apply And.intro;focus(and_intros<;>first|trivial|rfl)))
 refine ⟨(), ?_⟩
 (and_intros<;>first|trivial|rfl)
set_option maxHeartbeats 16000000 in
theorem rl2 (g2 : RuA) (p2 : PoA) (p1 : PoA) (x1 : Int) (y1 : Int) (w5 : Option AO) (w6 : Option AO) (w7 : Option AO) (w8 : Option AO) (w9 : Option AO) (x2 : Int) (y2 : Int) (w12 : Option AO) (w13 : Option AO) (w14 : Option AO) (w15 : Option AO) (w16 : Option AO) (w17 : Option AO) (w18 : Option AO) (w19 : Option AO) (w20 : Option AO) (w21 : Option AO) (w22 : Option AO) (w23 : Option AO) (w24 : Option AO) (g1 : RuA) (m : Int) (n : Int) (w28 : Option AO) (w29 : Option AO) (w30 : Option AO) (w31 : Option AO) (w32 : Option AO) (w33 : Option AO) (w34 : Option AO) (w35 : Option AO) (w36 : Option AO) (w37 : Option AO) (w38 : Option AO) (w39 : Option AO) (w40 : Option AO) (w41 : Option AO) (w42 : Option AO) (w43 : Option AO) (w44 : Option AO) (w45 : Option AO) (G1 : isGx g1 p1) (X1 : smQ x1) (Y1 : smQ y1) (G2 : isGx g2 p2) (X2 : smQ x2) (Y2 : smQ y2) (hpay : PayD 1 ⟨⟨g1, p1, x1, y1⟩, ⟨g2, p2, x2, y2⟩, ⟨g1, p1, x1, y1⟩, ⟨g1, p1, x1, y1⟩⟩ ⟨m, n⟩) (tot : (x1 + y1) + (x2 + y2) <= 200000) : RL2 g2 p2 p1 x1 y1 w5 w6 w7 w8 w9 x2 y2 w12 w13 w14 w15 w16 w17 w18 w19 w20 w21 w22 w23 w24 g1 m n w28 w29 w30 w31 w32 w33 w34 w35 w36 w37 w38 w39 w40 w41 w42 w43 w44 w45 := by
 obtain ⟨k1, j1, h1⟩ := G1
 obtain ⟨v11, v12, v13, v14, v15, v16, v17, v18, v19, v110, v111⟩ := flG_of h1
 obtain ⟨s11, s12⟩ := X1
 obtain ⟨s13, s14⟩ := Y1
 obtain ⟨k2, j2, h2⟩ := G2
 obtain ⟨v21, v22, v23, v24, v25, v26, v27, v28, v29, v210, v211⟩ := flG_of h2
 obtain ⟨s21, s22⟩ := X2
 obtain ⟨s23, s24⟩ := Y2
 have f12 := fl11
 have f13 := fl00
 have gl0 : FlatL cells0 := flatAll (by kernel_rfl)
 have gl1 : FlatL cells1 := flatAll (by kernel_rfl)
 have gl2 : FlatL cells2 := flatAll (by kernel_rfl)
 have gl4 : FlatL cells4 := flatAll (by kernel_rfl)
 have gl5 : FlatL cells5 := flatAll (by kernel_rfl)
 have gl6 : FlatL cells6 := flatAll (by kernel_rfl)
 have gl8 : FlatL cells8 := flatAll (by kernel_rfl)
 have gl9 : FlatL cells9 := flatAll (by kernel_rfl)
 have gl10 : FlatL cells10 := flatAll (by kernel_rfl)
 have t1 := fl2t x1 y1
 have t2 := fl2t x2 y2
 unfold RL2
 (repeat(apply And.intro;focus(and_intros<;>first|trivial|rfl)))
 refine ⟨⟨trivial, k2, j2, h2⟩, by (and_intros<;>first|trivial|rfl), fun t ht => ?_, trivial⟩
 obtain ⟨k', j', hi', ht⟩ := ht
 obtain ⟨rfl, rfl⟩ := isG_inj h2 hi'
 (repeat(apply And.intro;focus(and_intros<;>first|trivial|rfl)))
 refine ⟨fun h0 => ?_, fun h0 => ?_⟩
 ·have h0 : t.k = -1 := h0
  (repeat(apply And.intro;focus(and_intros<;>first|trivial|rfl)))
  refine ⟨⟨trivial, k1, j1, h1.1, h1.2.2⟩, by (and_intros<;>first|trivial|rfl), fun _ _ => ?_, trivial⟩
  (repeat(apply And.intro;focus(and_intros<;>first|trivial|rfl)))
  refine ⟨⟨trivial, ⟨Nat.le_refl _, Nat.le_refl _, t1⟩, x1, y1, rfl⟩, by (and_intros<;>first|trivial|rfl), fun a1 ha1 => ?_, trivial⟩
  obtain ⟨a11, a12⟩ := lw2 ha1
  (repeat(apply And.intro;focus(and_intros<;>first|trivial|rfl)))
  refine ⟨⟨trivial, k2, j2, h2.1, h2.2.2⟩, by (and_intros<;>first|trivial|rfl), fun _ _ => ?_, trivial⟩
  (repeat(apply And.intro;focus(and_intros<;>first|trivial|rfl)))
  refine ⟨⟨trivial, ⟨Nat.le_refl _, Nat.le_refl _, t2⟩, x2, y2, rfl⟩, by (and_intros<;>first|trivial|rfl), fun a2 ha2 => ?_, trivial⟩
  obtain ⟨a21, a22⟩ := lw2 ha2
  (repeat(apply And.intro;focus(and_intros<;>first|trivial|rfl)))
  refine ⟨⟨trivial, ⟨k2, j2, h2⟩, ⟨smI s21 s22, smI s23 s24⟩, ⟨smI s11 s12, smI s13 s14⟩⟩, by (and_intros<;>first|trivial|rfl), fun z hz => ?_, fun _ hn => ?_, trivial⟩
  ·obtain ⟨⟨k', j', hi', hov, hzp⟩, hu, hv⟩ := hz
   obtain ⟨rfl, rfl⟩ := isG_inj h2 hi'
   obtain ⟨⟨z1, z2⟩, z3⟩ := payR_ok hzp (by show 0 <= x2 + y2; omega)
   have z1 : 0 <= z.b.x := z1
   have z2 : 0 <= z.b.y := z2
   have z3 : z.b.x + z.b.y = x2 + y2 := z3
   have hu : z.u = x1 + z.b.x := hu
   have hv : z.v = y1 + z.b.y := hv
   have t9 := fl2t z.u z.v
   (repeat(apply And.intro;focus(and_intros<;>first|trivial|rfl)))
   refine ⟨⟨trivial, k1, j1, h1.1, h1.2.2⟩, by (and_intros<;>first|trivial|rfl), fun _ _ => ?_, trivial⟩
   (repeat(apply And.intro;focus(and_intros<;>first|trivial|rfl)))
   refine ⟨⟨trivial, ⟨Nat.le_refl _, Nat.le_refl _, t9⟩, z.u, z.v, rfl⟩, by (and_intros<;>first|trivial|rfl), fun a3 ha3 => ?_, trivial⟩
   obtain ⟨a31, a32⟩ := lw2 ha3
   (repeat(apply And.intro;focus(and_intros<;>first|trivial|rfl)))
   intro y1_ e1 y2_ e2 y3_ e3 y4_ e4 y5_ e5 y6_ e6 y7_ e7
   rw [wr64 (by omega)] at e1
   rw [wr64 (by omega)] at e2
   rw [wr64 (by omega)] at e3
   rw [wr64 (by omega)] at e4
   rw [wr64 (by omega)] at e5
   rw [wr64 (by omega)] at e6
   rw [wr64 (by omega)] at e7
   refine ⟨fun hne => absurd (by omega) hne, fun _ => ?_⟩
   (repeat(apply And.intro;focus(and_intros<;>first|trivial|rfl)))
   refine ⟨⟨trivial, ⟨⟨k1, j1, h1⟩, smI (show 0 <= z.u by omega) (show z.u <= 1000000 by omega), smI (show 0 <= z.v by omega) (show z.v <= 1000000 by omega)⟩⟩, by (and_intros<;>first|trivial|rfl), fun q hq => ?_, trivial⟩
   obtain ⟨c1, c2⟩ := pops2 (t := ⟨⟨g1, p1, x1, y1⟩, ⟨g2, p2, x2, y2⟩, ⟨g1, p1, x1, y1⟩, ⟨g1, p1, x1, y1⟩⟩) (s := ⟨⟨g1, p1, z.u, z.v⟩, ⟨g1, p1, z.u, z.v⟩, ⟨g1, p1, z.u, z.v⟩, ⟨g1, p1, z.u, z.v⟩⟩) (b := ⟨m, n⟩) (c := q) (z := z.b) h2 hov hzp rfl rfl hu hv hpay hq
   (repeat(apply And.intro;focus(and_intros<;>first|trivial|rfl)))
   refine ⟨fun _ _ => ?_, trivial⟩
   (repeat(apply And.intro;focus(and_intros<;>first|trivial|rfl)))
   refine ⟨⟨trivial, k1, j1, h1.1, h1.2.2⟩, by (and_intros<;>first|trivial|rfl), fun _ _ => ?_, trivial⟩
   refine ⟨by (and_intros<;>first|trivial|rfl), ?_⟩
   exact rl1 _ _ _ _ ⟨k1, j1, h1⟩ (smI (show 0 <= z.u by omega) (show z.u <= 1000000 by omega)) (smI (show 0 <= z.v by omega) (show z.v <= 1000000 by omega))
  ·obtain ⟨k', j', hi', h5⟩ := hn
   obtain ⟨rfl, rfl⟩ := isG_inj h2 hi'
   exact absurd h5 (by omega)
 ·have h0 : ¬ t.k = -1 := h0
  (repeat(apply And.intro;focus(and_intros<;>first|trivial|rfl)))
  refine ⟨⟨trivial, k1, j1, h1.1, h1.2.2⟩, by (and_intros<;>first|trivial|rfl), fun _ _ => ?_, trivial⟩
  (repeat(apply And.intro;focus(and_intros<;>first|trivial|rfl)))
  refine ⟨⟨trivial, ⟨Nat.le_refl _, Nat.le_refl _, t1⟩, x1, y1, rfl⟩, by (and_intros<;>first|trivial|rfl), fun a1 ha1 => ?_, trivial⟩
  obtain ⟨a11, a12⟩ := lw2 ha1
  (repeat(apply And.intro;focus(and_intros<;>first|trivial|rfl)))
  refine ⟨⟨trivial, k2, j2, h2.1, h2.2.2⟩, by (and_intros<;>first|trivial|rfl), fun _ _ => ?_, trivial⟩
  (repeat(apply And.intro;focus(and_intros<;>first|trivial|rfl)))
  refine ⟨⟨trivial, ⟨Nat.le_refl _, Nat.le_refl _, t2⟩, x2, y2, rfl⟩, by (and_intros<;>first|trivial|rfl), fun a2 ha2 => ?_, trivial⟩
  obtain ⟨a21, a22⟩ := lw2 ha2
  (repeat(apply And.intro;focus(and_intros<;>first|trivial|rfl)))
  refine ⟨⟨trivial, ⟨k2, j2, h2⟩, ⟨smI s21 s22, smI s23 s24⟩, ⟨smI s11 s12, smI s13 s14⟩⟩, by (and_intros<;>first|trivial|rfl), fun z hz => ?_, fun _ hn => ?_, trivial⟩
  ·obtain ⟨⟨k', j', hi', hov, -⟩, -, -⟩ := hz
   obtain ⟨rfl, rfl⟩ := isG_inj h2 hi'
   exact absurd (ht.trans ((turn_neg h2).1 hov)) h0
  ·refine ⟨(), ?_⟩
   (and_intros<;>first|trivial|rfl)
set_option maxHeartbeats 16000000 in
theorem rl3 (g3 : RuA) (p3 : PoA) (p2 : PoA) (x2 : Int) (y2 : Int) (w5 : Option AO) (w6 : Option AO) (w7 : Option AO) (w8 : Option AO) (w9 : Option AO) (x3 : Int) (y3 : Int) (w12 : Option AO) (w13 : Option AO) (w14 : Option AO) (w15 : Option AO) (w16 : Option AO) (p1 : PoA) (x1 : Int) (y1 : Int) (w20 : Option AO) (w21 : Option AO) (w22 : Option AO) (w23 : Option AO) (w24 : Option AO) (w25 : Option AO) (w26 : Option AO) (w27 : Option AO) (g1 : RuA) (g2 : RuA) (m : Int) (n : Int) (w32 : Option AO) (w33 : Option AO) (w34 : Option AO) (w35 : Option AO) (w36 : Option AO) (w37 : Option AO) (w38 : Option AO) (w39 : Option AO) (w40 : Option AO) (w41 : Option AO) (w42 : Option AO) (w43 : Option AO) (w44 : Option AO) (w45 : Option AO) (w46 : Option AO) (w47 : Option AO) (w48 : Option AO) (w49 : Option AO) (w50 : Option AO) (w51 : Option AO) (w52 : Option AO) (w53 : Option AO) (w54 : Option AO) (w55 : Option AO) (w56 : Option AO) (G1 : isGx g1 p1) (X1 : smQ x1) (Y1 : smQ y1) (G2 : isGx g2 p2) (X2 : smQ x2) (Y2 : smQ y2) (G3 : isGx g3 p3) (X3 : smQ x3) (Y3 : smQ y3) (hpay : PayD 2 ⟨⟨g1, p1, x1, y1⟩, ⟨g2, p2, x2, y2⟩, ⟨g3, p3, x3, y3⟩, ⟨g1, p1, x1, y1⟩⟩ ⟨m, n⟩) (tot : (x1 + y1) + (x2 + y2) + (x3 + y3) <= 200000) : RL3 g3 p3 p2 x2 y2 w5 w6 w7 w8 w9 x3 y3 w12 w13 w14 w15 w16 p1 x1 y1 w20 w21 w22 w23 w24 w25 w26 w27 g1 g2 m n w32 w33 w34 w35 w36 w37 w38 w39 w40 w41 w42 w43 w44 w45 w46 w47 w48 w49 w50 w51 w52 w53 w54 w55 w56 := by
 obtain ⟨k1, j1, h1⟩ := G1
 obtain ⟨v11, v12, v13, v14, v15, v16, v17, v18, v19, v110, v111⟩ := flG_of h1
 obtain ⟨s11, s12⟩ := X1
 obtain ⟨s13, s14⟩ := Y1
 obtain ⟨k2, j2, h2⟩ := G2
 obtain ⟨v21, v22, v23, v24, v25, v26, v27, v28, v29, v210, v211⟩ := flG_of h2
 obtain ⟨s21, s22⟩ := X2
 obtain ⟨s23, s24⟩ := Y2
 obtain ⟨k3, j3, h3⟩ := G3
 obtain ⟨v31, v32, v33, v34, v35, v36, v37, v38, v39, v310, v311⟩ := flG_of h3
 obtain ⟨s31, s32⟩ := X3
 obtain ⟨s33, s34⟩ := Y3
 have f12 := fl11
 have f13 := fl00
 have gl0 : FlatL cells0 := flatAll (by kernel_rfl)
 have gl1 : FlatL cells1 := flatAll (by kernel_rfl)
 have gl2 : FlatL cells2 := flatAll (by kernel_rfl)
 have gl4 : FlatL cells4 := flatAll (by kernel_rfl)
 have gl5 : FlatL cells5 := flatAll (by kernel_rfl)
 have gl6 : FlatL cells6 := flatAll (by kernel_rfl)
 have gl8 : FlatL cells8 := flatAll (by kernel_rfl)
 have gl9 : FlatL cells9 := flatAll (by kernel_rfl)
 have gl10 : FlatL cells10 := flatAll (by kernel_rfl)
 have t1 := fl2t x1 y1
 have t2 := fl2t x2 y2
 have t3 := fl2t x3 y3
 unfold RL3
 (repeat(apply And.intro;focus(and_intros<;>first|trivial|rfl)))
 refine ⟨⟨trivial, k3, j3, h3⟩, by (and_intros<;>first|trivial|rfl), fun t ht => ?_, trivial⟩
 obtain ⟨k', j', hi', ht⟩ := ht
 obtain ⟨rfl, rfl⟩ := isG_inj h3 hi'
 (repeat(apply And.intro;focus(and_intros<;>first|trivial|rfl)))
 refine ⟨fun h0 => ?_, fun h0 => ?_⟩
 ·have h0 : t.k = -1 := h0
  (repeat(apply And.intro;focus(and_intros<;>first|trivial|rfl)))
  refine ⟨⟨trivial, k2, j2, h2.1, h2.2.2⟩, by (and_intros<;>first|trivial|rfl), fun _ _ => ?_, trivial⟩
  (repeat(apply And.intro;focus(and_intros<;>first|trivial|rfl)))
  refine ⟨⟨trivial, ⟨Nat.le_refl _, Nat.le_refl _, t2⟩, x2, y2, rfl⟩, by (and_intros<;>first|trivial|rfl), fun a1 ha1 => ?_, trivial⟩
  obtain ⟨a11, a12⟩ := lw2 ha1
  (repeat(apply And.intro;focus(and_intros<;>first|trivial|rfl)))
  refine ⟨⟨trivial, k3, j3, h3.1, h3.2.2⟩, by (and_intros<;>first|trivial|rfl), fun _ _ => ?_, trivial⟩
  (repeat(apply And.intro;focus(and_intros<;>first|trivial|rfl)))
  refine ⟨⟨trivial, ⟨Nat.le_refl _, Nat.le_refl _, t3⟩, x3, y3, rfl⟩, by (and_intros<;>first|trivial|rfl), fun a2 ha2 => ?_, trivial⟩
  obtain ⟨a21, a22⟩ := lw2 ha2
  (repeat(apply And.intro;focus(and_intros<;>first|trivial|rfl)))
  refine ⟨⟨trivial, ⟨k3, j3, h3⟩, ⟨smI s31 s32, smI s33 s34⟩, ⟨smI s21 s22, smI s23 s24⟩⟩, by (and_intros<;>first|trivial|rfl), fun z hz => ?_, fun _ hn => ?_, trivial⟩
  ·obtain ⟨⟨k', j', hi', hov, hzp⟩, hu, hv⟩ := hz
   obtain ⟨rfl, rfl⟩ := isG_inj h3 hi'
   obtain ⟨⟨z1, z2⟩, z3⟩ := payR_ok hzp (by show 0 <= x3 + y3; omega)
   have z1 : 0 <= z.b.x := z1
   have z2 : 0 <= z.b.y := z2
   have z3 : z.b.x + z.b.y = x3 + y3 := z3
   have hu : z.u = x2 + z.b.x := hu
   have hv : z.v = y2 + z.b.y := hv
   have t9 := fl2t z.u z.v
   (repeat(apply And.intro;focus(and_intros<;>first|trivial|rfl)))
   refine ⟨⟨trivial, k2, j2, h2.1, h2.2.2⟩, by (and_intros<;>first|trivial|rfl), fun _ _ => ?_, trivial⟩
   (repeat(apply And.intro;focus(and_intros<;>first|trivial|rfl)))
   refine ⟨⟨trivial, ⟨Nat.le_refl _, Nat.le_refl _, t9⟩, z.u, z.v, rfl⟩, by (and_intros<;>first|trivial|rfl), fun a3 ha3 => ?_, trivial⟩
   obtain ⟨a31, a32⟩ := lw2 ha3
   (repeat(apply And.intro;focus(and_intros<;>first|trivial|rfl)))
   intro y1_ e1 y2_ e2 y3_ e3 y4_ e4 y5_ e5 y6_ e6 y7_ e7
   rw [wr64 (by omega)] at e1
   rw [wr64 (by omega)] at e2
   rw [wr64 (by omega)] at e3
   rw [wr64 (by omega)] at e4
   rw [wr64 (by omega)] at e5
   rw [wr64 (by omega)] at e6
   rw [wr64 (by omega)] at e7
   refine ⟨fun hne => absurd (by omega) hne, fun _ => ?_⟩
   (repeat(apply And.intro;focus(and_intros<;>first|trivial|rfl)))
   refine ⟨⟨trivial, ⟨⟨⟨k1, j1, h1⟩, smI s11 s12, smI s13 s14⟩, ⟨⟨k2, j2, h2⟩, smI (show 0 <= z.u by omega) (show z.u <= 1000000 by omega), smI (show 0 <= z.v by omega) (show z.v <= 1000000 by omega)⟩⟩⟩, by (and_intros<;>first|trivial|rfl), fun q hq => ?_, trivial⟩
   obtain ⟨c1, c2⟩ := pops3 (t := ⟨⟨g1, p1, x1, y1⟩, ⟨g2, p2, x2, y2⟩, ⟨g3, p3, x3, y3⟩, ⟨g1, p1, x1, y1⟩⟩) (s := ⟨⟨g1, p1, x1, y1⟩, ⟨g2, p2, z.u, z.v⟩, ⟨g1, p1, x1, y1⟩, ⟨g1, p1, x1, y1⟩⟩) (b := ⟨m, n⟩) (c := q) (z := z.b) h3 hov hzp rfl rfl rfl hu hv hpay hq
   (repeat(apply And.intro;focus(and_intros<;>first|trivial|rfl)))
   refine ⟨fun _ _ => ?_, trivial⟩
   (repeat(apply And.intro;focus(and_intros<;>first|trivial|rfl)))
   refine ⟨⟨trivial, k2, j2, h2.1, h2.2.2⟩, by (and_intros<;>first|trivial|rfl), fun _ _ => ?_, trivial⟩
   refine ⟨by (and_intros<;>first|trivial|rfl), ?_⟩
   exact rl2 _ _ _ _ _ _ _ _ _ _ _ _ _ _ _ _ _ _ _ _ _ _ _ _ _ _ _ _ _ _ _ _ _ _ _ _ _ _ _ _ _ _ _ _ _ _ ⟨k1, j1, h1⟩ ⟨s11, s12⟩ ⟨s13, s14⟩ ⟨k2, j2, h2⟩ (smI (show 0 <= z.u by omega) (show z.u <= 1000000 by omega)) (smI (show 0 <= z.v by omega) (show z.v <= 1000000 by omega)) (by have c1 : q.x = m := c1; have c2 : q.y = n := c2; rw [← c1, ← c2]; exact hq) (by show (x1 + y1) + (z.u + z.v) <= 200000; omega)
  ·obtain ⟨k', j', hi', h5⟩ := hn
   obtain ⟨rfl, rfl⟩ := isG_inj h3 hi'
   exact absurd h5 (by omega)
 ·have h0 : ¬ t.k = -1 := h0
  (repeat(apply And.intro;focus(and_intros<;>first|trivial|rfl)))
  refine ⟨⟨trivial, k2, j2, h2.1, h2.2.2⟩, by (and_intros<;>first|trivial|rfl), fun _ _ => ?_, trivial⟩
  (repeat(apply And.intro;focus(and_intros<;>first|trivial|rfl)))
  refine ⟨⟨trivial, ⟨Nat.le_refl _, Nat.le_refl _, t2⟩, x2, y2, rfl⟩, by (and_intros<;>first|trivial|rfl), fun a1 ha1 => ?_, trivial⟩
  obtain ⟨a11, a12⟩ := lw2 ha1
  (repeat(apply And.intro;focus(and_intros<;>first|trivial|rfl)))
  refine ⟨⟨trivial, k3, j3, h3.1, h3.2.2⟩, by (and_intros<;>first|trivial|rfl), fun _ _ => ?_, trivial⟩
  (repeat(apply And.intro;focus(and_intros<;>first|trivial|rfl)))
  refine ⟨⟨trivial, ⟨Nat.le_refl _, Nat.le_refl _, t3⟩, x3, y3, rfl⟩, by (and_intros<;>first|trivial|rfl), fun a2 ha2 => ?_, trivial⟩
  obtain ⟨a21, a22⟩ := lw2 ha2
  (repeat(apply And.intro;focus(and_intros<;>first|trivial|rfl)))
  refine ⟨⟨trivial, ⟨k3, j3, h3⟩, ⟨smI s31 s32, smI s33 s34⟩, ⟨smI s21 s22, smI s23 s24⟩⟩, by (and_intros<;>first|trivial|rfl), fun z hz => ?_, fun _ hn => ?_, trivial⟩
  ·obtain ⟨⟨k', j', hi', hov, -⟩, -, -⟩ := hz
   obtain ⟨rfl, rfl⟩ := isG_inj h3 hi'
   exact absurd (ht.trans ((turn_neg h3).1 hov)) h0
  ·refine ⟨(), ?_⟩
   (and_intros<;>first|trivial|rfl)
set_option maxHeartbeats 16000000 in
theorem rl4 (g4 : RuA) (p4 : PoA) (p3 : PoA) (x3 : Int) (y3 : Int) (w5 : Option AO) (w6 : Option AO) (w7 : Option AO) (w8 : Option AO) (w9 : Option AO) (x4 : Int) (y4 : Int) (w12 : Option AO) (w13 : Option AO) (w14 : Option AO) (w15 : Option AO) (w16 : Option AO) (p1 : PoA) (p2 : PoA) (x1 : Int) (y1 : Int) (x2 : Int) (y2 : Int) (w23 : Option AO) (w24 : Option AO) (w25 : Option AO) (w26 : Option AO) (w27 : Option AO) (w28 : Option AO) (w29 : Option AO) (w30 : Option AO) (g1 : RuA) (g2 : RuA) (g3 : RuA) (m : Int) (n : Int) (w36 : Option AO) (w37 : Option AO) (w38 : Option AO) (w39 : Option AO) (w40 : Option AO) (w41 : Option AO) (w42 : Option AO) (w43 : Option AO) (w44 : Option AO) (w45 : Option AO) (w46 : Option AO) (w47 : Option AO) (w48 : Option AO) (w49 : Option AO) (w50 : Option AO) (w51 : Option AO) (w52 : Option AO) (w53 : Option AO) (w54 : Option AO) (w55 : Option AO) (w56 : Option AO) (w57 : Option AO) (w58 : Option AO) (w59 : Option AO) (w60 : Option AO) (w61 : Option AO) (w62 : Option AO) (w63 : Option AO) (w64 : Option AO) (w65 : Option AO) (w66 : Option AO) (w67 : Option AO) (G1 : isGx g1 p1) (X1 : smQ x1) (Y1 : smQ y1) (G2 : isGx g2 p2) (X2 : smQ x2) (Y2 : smQ y2) (G3 : isGx g3 p3) (X3 : smQ x3) (Y3 : smQ y3) (G4 : isGx g4 p4) (X4 : smQ x4) (Y4 : smQ y4) (hpay : PayD 3 ⟨⟨g1, p1, x1, y1⟩, ⟨g2, p2, x2, y2⟩, ⟨g3, p3, x3, y3⟩, ⟨g4, p4, x4, y4⟩⟩ ⟨m, n⟩) (tot : (x1 + y1) + (x2 + y2) + (x3 + y3) + (x4 + y4) <= 200000) : RL4 g4 p4 p3 x3 y3 w5 w6 w7 w8 w9 x4 y4 w12 w13 w14 w15 w16 p1 p2 x1 y1 x2 y2 w23 w24 w25 w26 w27 w28 w29 w30 g1 g2 g3 m n w36 w37 w38 w39 w40 w41 w42 w43 w44 w45 w46 w47 w48 w49 w50 w51 w52 w53 w54 w55 w56 w57 w58 w59 w60 w61 w62 w63 w64 w65 w66 w67 := by
 obtain ⟨k1, j1, h1⟩ := G1
 obtain ⟨v11, v12, v13, v14, v15, v16, v17, v18, v19, v110, v111⟩ := flG_of h1
 obtain ⟨s11, s12⟩ := X1
 obtain ⟨s13, s14⟩ := Y1
 obtain ⟨k2, j2, h2⟩ := G2
 obtain ⟨v21, v22, v23, v24, v25, v26, v27, v28, v29, v210, v211⟩ := flG_of h2
 obtain ⟨s21, s22⟩ := X2
 obtain ⟨s23, s24⟩ := Y2
 obtain ⟨k3, j3, h3⟩ := G3
 obtain ⟨v31, v32, v33, v34, v35, v36, v37, v38, v39, v310, v311⟩ := flG_of h3
 obtain ⟨s31, s32⟩ := X3
 obtain ⟨s33, s34⟩ := Y3
 obtain ⟨k4, j4, h4⟩ := G4
 obtain ⟨v41, v42, v43, v44, v45, v46, v47, v48, v49, v410, v411⟩ := flG_of h4
 obtain ⟨s41, s42⟩ := X4
 obtain ⟨s43, s44⟩ := Y4
 have f12 := fl11
 have f13 := fl00
 have gl0 : FlatL cells0 := flatAll (by kernel_rfl)
 have gl1 : FlatL cells1 := flatAll (by kernel_rfl)
 have gl2 : FlatL cells2 := flatAll (by kernel_rfl)
 have gl4 : FlatL cells4 := flatAll (by kernel_rfl)
 have gl5 : FlatL cells5 := flatAll (by kernel_rfl)
 have gl6 : FlatL cells6 := flatAll (by kernel_rfl)
 have gl8 : FlatL cells8 := flatAll (by kernel_rfl)
 have gl9 : FlatL cells9 := flatAll (by kernel_rfl)
 have gl10 : FlatL cells10 := flatAll (by kernel_rfl)
 have t1 := fl2t x1 y1
 have t2 := fl2t x2 y2
 have t3 := fl2t x3 y3
 have t4 := fl2t x4 y4
 unfold RL4
 (repeat(apply And.intro;focus(and_intros<;>first|trivial|rfl)))
 refine ⟨⟨trivial, k4, j4, h4⟩, by (and_intros<;>first|trivial|rfl), fun t ht => ?_, trivial⟩
 obtain ⟨k', j', hi', ht⟩ := ht
 obtain ⟨rfl, rfl⟩ := isG_inj h4 hi'
 (repeat(apply And.intro;focus(and_intros<;>first|trivial|rfl)))
 refine ⟨fun h0 => ?_, fun h0 => ?_⟩
 ·have h0 : t.k = -1 := h0
  (repeat(apply And.intro;focus(and_intros<;>first|trivial|rfl)))
  refine ⟨⟨trivial, k3, j3, h3.1, h3.2.2⟩, by (and_intros<;>first|trivial|rfl), fun _ _ => ?_, trivial⟩
  (repeat(apply And.intro;focus(and_intros<;>first|trivial|rfl)))
  refine ⟨⟨trivial, ⟨Nat.le_refl _, Nat.le_refl _, t3⟩, x3, y3, rfl⟩, by (and_intros<;>first|trivial|rfl), fun a1 ha1 => ?_, trivial⟩
  obtain ⟨a11, a12⟩ := lw2 ha1
  (repeat(apply And.intro;focus(and_intros<;>first|trivial|rfl)))
  refine ⟨⟨trivial, k4, j4, h4.1, h4.2.2⟩, by (and_intros<;>first|trivial|rfl), fun _ _ => ?_, trivial⟩
  (repeat(apply And.intro;focus(and_intros<;>first|trivial|rfl)))
  refine ⟨⟨trivial, ⟨Nat.le_refl _, Nat.le_refl _, t4⟩, x4, y4, rfl⟩, by (and_intros<;>first|trivial|rfl), fun a2 ha2 => ?_, trivial⟩
  obtain ⟨a21, a22⟩ := lw2 ha2
  (repeat(apply And.intro;focus(and_intros<;>first|trivial|rfl)))
  refine ⟨⟨trivial, ⟨k4, j4, h4⟩, ⟨smI s41 s42, smI s43 s44⟩, ⟨smI s31 s32, smI s33 s34⟩⟩, by (and_intros<;>first|trivial|rfl), fun z hz => ?_, fun _ hn => ?_, trivial⟩
  ·obtain ⟨⟨k', j', hi', hov, hzp⟩, hu, hv⟩ := hz
   obtain ⟨rfl, rfl⟩ := isG_inj h4 hi'
   obtain ⟨⟨z1, z2⟩, z3⟩ := payR_ok hzp (by show 0 <= x4 + y4; omega)
   have z1 : 0 <= z.b.x := z1
   have z2 : 0 <= z.b.y := z2
   have z3 : z.b.x + z.b.y = x4 + y4 := z3
   have hu : z.u = x3 + z.b.x := hu
   have hv : z.v = y3 + z.b.y := hv
   have t9 := fl2t z.u z.v
   (repeat(apply And.intro;focus(and_intros<;>first|trivial|rfl)))
   refine ⟨⟨trivial, k3, j3, h3.1, h3.2.2⟩, by (and_intros<;>first|trivial|rfl), fun _ _ => ?_, trivial⟩
   (repeat(apply And.intro;focus(and_intros<;>first|trivial|rfl)))
   refine ⟨⟨trivial, ⟨Nat.le_refl _, Nat.le_refl _, t9⟩, z.u, z.v, rfl⟩, by (and_intros<;>first|trivial|rfl), fun a3 ha3 => ?_, trivial⟩
   obtain ⟨a31, a32⟩ := lw2 ha3
   (repeat(apply And.intro;focus(and_intros<;>first|trivial|rfl)))
   intro y1_ e1 y2_ e2 y3_ e3 y4_ e4 y5_ e5 y6_ e6 y7_ e7
   rw [wr64 (by omega)] at e1
   rw [wr64 (by omega)] at e2
   rw [wr64 (by omega)] at e3
   rw [wr64 (by omega)] at e4
   rw [wr64 (by omega)] at e5
   rw [wr64 (by omega)] at e6
   rw [wr64 (by omega)] at e7
   refine ⟨fun hne => absurd (by omega) hne, fun _ => ?_⟩
   (repeat(apply And.intro;focus(and_intros<;>first|trivial|rfl)))
   refine ⟨⟨trivial, ⟨⟨⟨k1, j1, h1⟩, smI s11 s12, smI s13 s14⟩, ⟨⟨k2, j2, h2⟩, smI s21 s22, smI s23 s24⟩, ⟨⟨k3, j3, h3⟩, smI (show 0 <= z.u by omega) (show z.u <= 1000000 by omega), smI (show 0 <= z.v by omega) (show z.v <= 1000000 by omega)⟩⟩⟩, by (and_intros<;>first|trivial|rfl), fun q hq => ?_, trivial⟩
   obtain ⟨c1, c2⟩ := pops4 (t := ⟨⟨g1, p1, x1, y1⟩, ⟨g2, p2, x2, y2⟩, ⟨g3, p3, x3, y3⟩, ⟨g4, p4, x4, y4⟩⟩) (s := ⟨⟨g1, p1, x1, y1⟩, ⟨g2, p2, x2, y2⟩, ⟨g3, p3, z.u, z.v⟩, ⟨g1, p1, x1, y1⟩⟩) (b := ⟨m, n⟩) (c := q) (z := z.b) h4 hov hzp rfl rfl rfl rfl hu hv hpay hq
   (repeat(apply And.intro;focus(and_intros<;>first|trivial|rfl)))
   refine ⟨fun _ _ => ?_, trivial⟩
   (repeat(apply And.intro;focus(and_intros<;>first|trivial|rfl)))
   refine ⟨⟨trivial, k3, j3, h3.1, h3.2.2⟩, by (and_intros<;>first|trivial|rfl), fun _ _ => ?_, trivial⟩
   refine ⟨by (and_intros<;>first|trivial|rfl), ?_⟩
   exact rl3 _ _ _ _ _ _ _ _ _ _ _ _ _ _ _ _ _ _ _ _ _ _ _ _ _ _ _ _ _ _ _ _ _ _ _ _ _ _ _ _ _ _ _ _ _ _ _ _ _ _ _ _ _ _ _ _ _ ⟨k1, j1, h1⟩ ⟨s11, s12⟩ ⟨s13, s14⟩ ⟨k2, j2, h2⟩ ⟨s21, s22⟩ ⟨s23, s24⟩ ⟨k3, j3, h3⟩ (smI (show 0 <= z.u by omega) (show z.u <= 1000000 by omega)) (smI (show 0 <= z.v by omega) (show z.v <= 1000000 by omega)) (by have c1 : q.x = m := c1; have c2 : q.y = n := c2; rw [← c1, ← c2]; exact hq) (by show (x1 + y1) + (x2 + y2) + (z.u + z.v) <= 200000; omega)
  ·obtain ⟨k', j', hi', h5⟩ := hn
   obtain ⟨rfl, rfl⟩ := isG_inj h4 hi'
   exact absurd h5 (by omega)
 ·have h0 : ¬ t.k = -1 := h0
  (repeat(apply And.intro;focus(and_intros<;>first|trivial|rfl)))
  refine ⟨⟨trivial, k3, j3, h3.1, h3.2.2⟩, by (and_intros<;>first|trivial|rfl), fun _ _ => ?_, trivial⟩
  (repeat(apply And.intro;focus(and_intros<;>first|trivial|rfl)))
  refine ⟨⟨trivial, ⟨Nat.le_refl _, Nat.le_refl _, t3⟩, x3, y3, rfl⟩, by (and_intros<;>first|trivial|rfl), fun a1 ha1 => ?_, trivial⟩
  obtain ⟨a11, a12⟩ := lw2 ha1
  (repeat(apply And.intro;focus(and_intros<;>first|trivial|rfl)))
  refine ⟨⟨trivial, k4, j4, h4.1, h4.2.2⟩, by (and_intros<;>first|trivial|rfl), fun _ _ => ?_, trivial⟩
  (repeat(apply And.intro;focus(and_intros<;>first|trivial|rfl)))
  refine ⟨⟨trivial, ⟨Nat.le_refl _, Nat.le_refl _, t4⟩, x4, y4, rfl⟩, by (and_intros<;>first|trivial|rfl), fun a2 ha2 => ?_, trivial⟩
  obtain ⟨a21, a22⟩ := lw2 ha2
  (repeat(apply And.intro;focus(and_intros<;>first|trivial|rfl)))
  refine ⟨⟨trivial, ⟨k4, j4, h4⟩, ⟨smI s41 s42, smI s43 s44⟩, ⟨smI s31 s32, smI s33 s34⟩⟩, by (and_intros<;>first|trivial|rfl), fun z hz => ?_, fun _ hn => ?_, trivial⟩
  ·obtain ⟨⟨k', j', hi', hov, -⟩, -, -⟩ := hz
   obtain ⟨rfl, rfl⟩ := isG_inj h4 hi'
   exact absurd (ht.trans ((turn_neg h4).1 hov)) h0
  ·refine ⟨(), ?_⟩
   (and_intros<;>first|trivial|rfl)
set_option maxHeartbeats 8000000 in
theorem g_pops (a : MnA) (hw : 0 <= a.w /\ a.w < 256) (hx : 0 <= a.x /\ a.x < 65536) (hy : 0 <= a.y /\ a.y < 65536) (hacts : actsX a.v a.l) : GW (G_pops a) := by
 have f12 := fl11
 have f13 := fl00
 have hla : (a.l : Int) <= 9223372036854775807 := by have := hacts.1; omega
 have gl0 : FlatL cells0 := flatAll (by kernel_rfl)
 have gl1 : FlatL cells1 := flatAll (by kernel_rfl)
 have gl2 : FlatL cells2 := flatAll (by kernel_rfl)
 have gl4 : FlatL cells4 := flatAll (by kernel_rfl)
 have gl5 : FlatL cells5 := flatAll (by kernel_rfl)
 have gl6 : FlatL cells6 := flatAll (by kernel_rfl)
 have gl8 : FlatL cells8 := flatAll (by kernel_rfl)
 have gl9 : FlatL cells9 := flatAll (by kernel_rfl)
 have gl10 : FlatL cells10 := flatAll (by kernel_rfl)
 refine ⟨?_⟩
 rw [vc_pops]
 (repeat(apply And.intro;focus(and_intros<;>first|trivial|rfl)))
 refine ⟨fun _ _ => ?_, trivial⟩
 (repeat(apply And.intro;focus(and_intros<;>first|trivial|rfl)))
 refine ⟨⟨trivial, hacts⟩, by (and_intros<;>first|trivial|rfl), fun _ _ => ?_, fun _ hl => ?_, trivial⟩
 ·(repeat(apply And.intro;focus(and_intros<;>first|trivial|rfl)))
  refine ⟨fun _ _ => ?_, trivial⟩
  (repeat(apply And.intro;focus(and_intros<;>first|trivial|rfl)))
  refine ⟨(), ?_⟩
  (and_intros<;>first|trivial|rfl)
 (repeat(apply And.intro;focus(and_intros<;>first|trivial|rfl)))
 refine ⟨⟨trivial, hw, hx, hy⟩, by (and_intros<;>first|trivial|rfl), fun b hb => ?_, trivial⟩
 obtain ⟨k0, -, -, hi0⟩ := hb
 (repeat(apply And.intro;focus(and_intros<;>first|trivial|rfl)))
 intro x13 e13
 refine ⟨⟨⟨⟨⟨b.g, b.p, a.x, a.y⟩, ⟨b.g, b.p, a.x, a.y⟩, ⟨b.g, b.p, a.x, a.y⟩, ⟨b.g, b.p, a.x, a.y⟩⟩, 0⟩, ⟨⟨Int.le_refl _, by show (0 : Int) <= a.l; omega⟩, ⟨⟨k0, 0, hi0⟩, smI hx.1 (show a.x <= 1000000 by omega), smI hy.1 (show a.y <= 1000000 by omega)⟩, rfl⟩, ?_⟩, fun e he => ?_, fun e he => ?_, fun e he => ?_, fun e he => ?_, trivial⟩
 ·obtain ⟨g1, g2, g3, g4, g5, g6, g7, g8, g9, g10, g11⟩ := flG_of hi0
  have e13 := e13.symm
  (and_intros<;>first|trivial|rfl)
 ·obtain ⟨t, i⟩ := e
  obtain ⟨⟨i1, i2⟩, ok, tot⟩ := he
  have i1 : 0 <= i := i1
  have i2 : i <= a.l := i2
  have tot : (t.a.x + t.a.y) = a.x + a.y := tot
  obtain ⟨⟨k1, j1, h1⟩, ⟨s11, s12⟩, s13, s14⟩ := ok
  have h1 : isG t.a.g t.a.p k1 j1 := h1
  have s11 : 0 <= t.a.x := s11
  have s12 : t.a.x <= 1000000 := s12
  have s13 : 0 <= t.a.y := s13
  have s14 : t.a.y <= 1000000 := s14
  obtain ⟨v11, v12, v13, v14, v15, v16, v17, v18, v19, v110, v111⟩ := flG_of h1
  refine ⟨fun hlt => ?_, fun hlt => ?_⟩
  rotate_left
  ·(repeat(apply And.intro;focus(and_intros<;>first|trivial|rfl)))
   refine ⟨⟨trivial, ⟨⟨k1, j1, h1⟩, smI s11 s12, smI s13 s14⟩⟩, by (and_intros<;>first|trivial|rfl), fun q hq => ?_, trivial⟩
   exact rl1 _ _ _ _ ⟨k1, j1, h1⟩ ⟨s11, s12⟩ ⟨s13, s14⟩
  have hlt : i < a.l := hlt
  obtain ⟨b1, o1, hv, w1, t1, z1, v1, va, vl, vc, ⟨q1, q2, q3, q4, q5⟩, ⟨r1, r2, r3⟩, htwo⟩ := hacts.2 i.toNat (by omega)
  refine ⟨⟨i1, hlt⟩, b1, o1, hv, fun p ep => ⟨w1, by rw [ep]; exact q1, t1, by rw [ep]; exact q2, z1, by rw [ep]; exact q3, v1, by rw [ep]; exact q4, va, vl, vc, by rw [ep]; exact q5, ?_⟩⟩
  (repeat(apply And.intro;focus(and_intros<;>first|trivial|rfl)))
  refine ⟨⟨trivial, ⟨k1, j1, h1⟩, ⟨⟨⟨s11, s12⟩, s13, s14⟩, ⟨smI (Int.le_refl _) (by decide), smI (Int.le_refl _) (by decide)⟩⟩, ⟨r1, r2, r3⟩, htwo⟩, by (and_intros<;>first|trivial|rfl), fun m hm => ?_, fun er her => ?_, fun g hg => ?_, trivial⟩
  ·obtain ⟨k9, j9, m9, i91, -, i93⟩ := hm
   exact ta1 _ _ _ _ _ _ i1 hlt hla ⟨k9, m9, i93⟩ ⟨s11, s12⟩ ⟨s13, s14⟩ (by show (t.a.x + t.a.y) = a.x + a.y; omega)
  ·skip
   exact ta1 _ _ _ _ _ _ i1 hlt hla ⟨k1, j1, h1⟩ ⟨s11, s12⟩ ⟨s13, s14⟩ (by show (t.a.x + t.a.y) = a.x + a.y; omega)
  ·obtain ⟨⟨-, hgx, -, ⟨b91, b92⟩, b93, b94⟩, hu, hv2⟩ := hg
   have b91 : 0 <= g.b.x := b91
   have b93 : 0 <= g.b.y := b93
   have b92 : g.b.x <= t.a.x := b92
   have b94 : g.b.y <= t.a.y := b94
   have hu : g.u = t.a.x - g.b.x := hu
   have hv2 : g.v = t.a.y - g.b.y := hv2
   exact ta2 _ _ _ _ _ _ _ _ _ _ i1 hlt hla ⟨k1, j1, h1⟩ (smI (show 0 <= g.u by omega) (show g.u <= 1000000 by omega)) (smI (show 0 <= g.v by omega) (show g.v <= 1000000 by omega)) hgx (smI (show 0 <= g.b.x by omega) (show g.b.x <= 1000000 by omega)) (smI (show 0 <= g.b.y by omega) (show g.b.y <= 1000000 by omega)) (by show (g.u + g.v) + (g.b.x + g.b.y) = a.x + a.y; omega)
 ·obtain ⟨t, i⟩ := e
  obtain ⟨⟨i1, i2⟩, ok, tot⟩ := he
  have i1 : 0 <= i := i1
  have i2 : i <= a.l := i2
  have tot : (t.a.x + t.a.y) + (t.b.x + t.b.y) = a.x + a.y := tot
  obtain ⟨⟨⟨k1, j1, h1⟩, ⟨s11, s12⟩, s13, s14⟩, ⟨⟨k2, j2, h2⟩, ⟨s21, s22⟩, s23, s24⟩⟩ := ok
  have h1 : isG t.a.g t.a.p k1 j1 := h1
  have s11 : 0 <= t.a.x := s11
  have s12 : t.a.x <= 1000000 := s12
  have s13 : 0 <= t.a.y := s13
  have s14 : t.a.y <= 1000000 := s14
  obtain ⟨v11, v12, v13, v14, v15, v16, v17, v18, v19, v110, v111⟩ := flG_of h1
  have h2 : isG t.b.g t.b.p k2 j2 := h2
  have s21 : 0 <= t.b.x := s21
  have s22 : t.b.x <= 1000000 := s22
  have s23 : 0 <= t.b.y := s23
  have s24 : t.b.y <= 1000000 := s24
  obtain ⟨v21, v22, v23, v24, v25, v26, v27, v28, v29, v210, v211⟩ := flG_of h2
  refine ⟨fun hlt => ?_, fun hlt => ?_⟩
  rotate_left
  ·(repeat(apply And.intro;focus(and_intros<;>first|trivial|rfl)))
   refine ⟨⟨trivial, ⟨⟨⟨k1, j1, h1⟩, smI s11 s12, smI s13 s14⟩, ⟨⟨k2, j2, h2⟩, smI s21 s22, smI s23 s24⟩⟩⟩, by (and_intros<;>first|trivial|rfl), fun q hq => ?_, trivial⟩
   exact rl2 _ _ _ _ _ _ _ _ _ _ _ _ _ _ _ _ _ _ _ _ _ _ _ _ _ _ _ _ _ _ _ _ _ _ _ _ _ _ _ _ _ _ _ _ _ _ ⟨k1, j1, h1⟩ ⟨s11, s12⟩ ⟨s13, s14⟩ ⟨k2, j2, h2⟩ ⟨s21, s22⟩ ⟨s23, s24⟩ hq (by show (t.a.x + t.a.y) + (t.b.x + t.b.y) <= 200000; omega)
  have hlt : i < a.l := hlt
  obtain ⟨b1, o1, hv, w1, t1, z1, v1, va, vl, vc, ⟨q1, q2, q3, q4, q5⟩, ⟨r1, r2, r3⟩, htwo⟩ := hacts.2 i.toNat (by omega)
  refine ⟨⟨i1, hlt⟩, b1, o1, hv, fun p ep => ⟨w1, by rw [ep]; exact q1, t1, by rw [ep]; exact q2, z1, by rw [ep]; exact q3, v1, by rw [ep]; exact q4, va, vl, vc, by rw [ep]; exact q5, ?_⟩⟩
  (repeat(apply And.intro;focus(and_intros<;>first|trivial|rfl)))
  refine ⟨⟨trivial, ⟨k2, j2, h2⟩, ⟨⟨⟨s21, s22⟩, s23, s24⟩, ⟨⟨s11, s12⟩, s13, s14⟩⟩, ⟨r1, r2, r3⟩, htwo⟩, by (and_intros<;>first|trivial|rfl), fun m hm => ?_, fun er her => ?_, fun g hg => ?_, fun z hz => ?_, trivial⟩
  ·obtain ⟨k9, j9, m9, i91, -, i93⟩ := hm
   exact ta2 _ _ _ _ _ _ _ _ _ _ i1 hlt hla ⟨k1, j1, h1⟩ ⟨s11, s12⟩ ⟨s13, s14⟩ ⟨k9, m9, i93⟩ ⟨s21, s22⟩ ⟨s23, s24⟩ (by show (t.a.x + t.a.y) + (t.b.x + t.b.y) = a.x + a.y; omega)
  ·skip
   exact ta2 _ _ _ _ _ _ _ _ _ _ i1 hlt hla ⟨k1, j1, h1⟩ ⟨s11, s12⟩ ⟨s13, s14⟩ ⟨k2, j2, h2⟩ ⟨s21, s22⟩ ⟨s23, s24⟩ (by show (t.a.x + t.a.y) + (t.b.x + t.b.y) = a.x + a.y; omega)
  ·obtain ⟨⟨-, hgx, -, ⟨b91, b92⟩, b93, b94⟩, hu, hv2⟩ := hg
   have b91 : 0 <= g.b.x := b91
   have b93 : 0 <= g.b.y := b93
   have b92 : g.b.x <= t.b.x := b92
   have b94 : g.b.y <= t.b.y := b94
   have hu : g.u = t.b.x - g.b.x := hu
   have hv2 : g.v = t.b.y - g.b.y := hv2
   exact ta3 _ _ _ _ _ _ _ _ _ _ _ _ _ _ i1 hlt hla ⟨k1, j1, h1⟩ ⟨s11, s12⟩ ⟨s13, s14⟩ ⟨k2, j2, h2⟩ (smI (show 0 <= g.u by omega) (show g.u <= 1000000 by omega)) (smI (show 0 <= g.v by omega) (show g.v <= 1000000 by omega)) hgx (smI (show 0 <= g.b.x by omega) (show g.b.x <= 1000000 by omega)) (smI (show 0 <= g.b.y by omega) (show g.b.y <= 1000000 by omega)) (by show (t.a.x + t.a.y) + (g.u + g.v) + (g.b.x + g.b.y) = a.x + a.y; omega)
  ·obtain ⟨⟨-, k9, j9, -, -, hpay⟩, hu, hv2⟩ := hz
   obtain ⟨⟨z91, z92⟩, z93⟩ := payR_ok hpay (by show 0 <= t.b.x + t.b.y; omega)
   have z93 : z.b.x + z.b.y = t.b.x + t.b.y := z93
   have z91 : 0 <= z.b.x := z91
   have z92 : 0 <= z.b.y := z92
   have hu : z.u = t.a.x + z.b.x := hu
   have hv2 : z.v = t.a.y + z.b.y := hv2
   exact ta1 _ _ _ _ _ _ i1 hlt hla ⟨k1, j1, h1⟩ (smI (show 0 <= z.u by omega) (show z.u <= 1000000 by omega)) (smI (show 0 <= z.v by omega) (show z.v <= 1000000 by omega)) (by show (z.u + z.v) = a.x + a.y; omega)
 ·obtain ⟨t, i⟩ := e
  obtain ⟨⟨i1, i2⟩, ok, tot⟩ := he
  have i1 : 0 <= i := i1
  have i2 : i <= a.l := i2
  have tot : (t.a.x + t.a.y) + (t.b.x + t.b.y) + (t.c.x + t.c.y) = a.x + a.y := tot
  obtain ⟨⟨⟨k1, j1, h1⟩, ⟨s11, s12⟩, s13, s14⟩, ⟨⟨k2, j2, h2⟩, ⟨s21, s22⟩, s23, s24⟩, ⟨⟨k3, j3, h3⟩, ⟨s31, s32⟩, s33, s34⟩⟩ := ok
  have h1 : isG t.a.g t.a.p k1 j1 := h1
  have s11 : 0 <= t.a.x := s11
  have s12 : t.a.x <= 1000000 := s12
  have s13 : 0 <= t.a.y := s13
  have s14 : t.a.y <= 1000000 := s14
  obtain ⟨v11, v12, v13, v14, v15, v16, v17, v18, v19, v110, v111⟩ := flG_of h1
  have h2 : isG t.b.g t.b.p k2 j2 := h2
  have s21 : 0 <= t.b.x := s21
  have s22 : t.b.x <= 1000000 := s22
  have s23 : 0 <= t.b.y := s23
  have s24 : t.b.y <= 1000000 := s24
  obtain ⟨v21, v22, v23, v24, v25, v26, v27, v28, v29, v210, v211⟩ := flG_of h2
  have h3 : isG t.c.g t.c.p k3 j3 := h3
  have s31 : 0 <= t.c.x := s31
  have s32 : t.c.x <= 1000000 := s32
  have s33 : 0 <= t.c.y := s33
  have s34 : t.c.y <= 1000000 := s34
  obtain ⟨v31, v32, v33, v34, v35, v36, v37, v38, v39, v310, v311⟩ := flG_of h3
  refine ⟨fun hlt => ?_, fun hlt => ?_⟩
  rotate_left
  ·(repeat(apply And.intro;focus(and_intros<;>first|trivial|rfl)))
   refine ⟨⟨trivial, ⟨⟨⟨k1, j1, h1⟩, smI s11 s12, smI s13 s14⟩, ⟨⟨k2, j2, h2⟩, smI s21 s22, smI s23 s24⟩, ⟨⟨k3, j3, h3⟩, smI s31 s32, smI s33 s34⟩⟩⟩, by (and_intros<;>first|trivial|rfl), fun q hq => ?_, trivial⟩
   exact rl3 _ _ _ _ _ _ _ _ _ _ _ _ _ _ _ _ _ _ _ _ _ _ _ _ _ _ _ _ _ _ _ _ _ _ _ _ _ _ _ _ _ _ _ _ _ _ _ _ _ _ _ _ _ _ _ _ _ ⟨k1, j1, h1⟩ ⟨s11, s12⟩ ⟨s13, s14⟩ ⟨k2, j2, h2⟩ ⟨s21, s22⟩ ⟨s23, s24⟩ ⟨k3, j3, h3⟩ ⟨s31, s32⟩ ⟨s33, s34⟩ hq (by show (t.a.x + t.a.y) + (t.b.x + t.b.y) + (t.c.x + t.c.y) <= 200000; omega)
  have hlt : i < a.l := hlt
  obtain ⟨b1, o1, hv, w1, t1, z1, v1, va, vl, vc, ⟨q1, q2, q3, q4, q5⟩, ⟨r1, r2, r3⟩, htwo⟩ := hacts.2 i.toNat (by omega)
  refine ⟨⟨i1, hlt⟩, b1, o1, hv, fun p ep => ⟨w1, by rw [ep]; exact q1, t1, by rw [ep]; exact q2, z1, by rw [ep]; exact q3, v1, by rw [ep]; exact q4, va, vl, vc, by rw [ep]; exact q5, ?_⟩⟩
  (repeat(apply And.intro;focus(and_intros<;>first|trivial|rfl)))
  refine ⟨⟨trivial, ⟨k3, j3, h3⟩, ⟨⟨⟨s31, s32⟩, s33, s34⟩, ⟨⟨s21, s22⟩, s23, s24⟩⟩, ⟨r1, r2, r3⟩, htwo⟩, by (and_intros<;>first|trivial|rfl), fun m hm => ?_, fun er her => ?_, fun g hg => ?_, fun z hz => ?_, trivial⟩
  ·obtain ⟨k9, j9, m9, i91, -, i93⟩ := hm
   exact ta3 _ _ _ _ _ _ _ _ _ _ _ _ _ _ i1 hlt hla ⟨k1, j1, h1⟩ ⟨s11, s12⟩ ⟨s13, s14⟩ ⟨k2, j2, h2⟩ ⟨s21, s22⟩ ⟨s23, s24⟩ ⟨k9, m9, i93⟩ ⟨s31, s32⟩ ⟨s33, s34⟩ (by show (t.a.x + t.a.y) + (t.b.x + t.b.y) + (t.c.x + t.c.y) = a.x + a.y; omega)
  ·skip
   exact ta3 _ _ _ _ _ _ _ _ _ _ _ _ _ _ i1 hlt hla ⟨k1, j1, h1⟩ ⟨s11, s12⟩ ⟨s13, s14⟩ ⟨k2, j2, h2⟩ ⟨s21, s22⟩ ⟨s23, s24⟩ ⟨k3, j3, h3⟩ ⟨s31, s32⟩ ⟨s33, s34⟩ (by show (t.a.x + t.a.y) + (t.b.x + t.b.y) + (t.c.x + t.c.y) = a.x + a.y; omega)
  ·obtain ⟨⟨-, hgx, -, ⟨b91, b92⟩, b93, b94⟩, hu, hv2⟩ := hg
   have b91 : 0 <= g.b.x := b91
   have b93 : 0 <= g.b.y := b93
   have b92 : g.b.x <= t.c.x := b92
   have b94 : g.b.y <= t.c.y := b94
   have hu : g.u = t.c.x - g.b.x := hu
   have hv2 : g.v = t.c.y - g.b.y := hv2
   exact ta4 _ _ _ _ _ _ _ _ _ _ _ _ _ _ _ _ _ _ i1 hlt hla ⟨k1, j1, h1⟩ ⟨s11, s12⟩ ⟨s13, s14⟩ ⟨k2, j2, h2⟩ ⟨s21, s22⟩ ⟨s23, s24⟩ ⟨k3, j3, h3⟩ (smI (show 0 <= g.u by omega) (show g.u <= 1000000 by omega)) (smI (show 0 <= g.v by omega) (show g.v <= 1000000 by omega)) hgx (smI (show 0 <= g.b.x by omega) (show g.b.x <= 1000000 by omega)) (smI (show 0 <= g.b.y by omega) (show g.b.y <= 1000000 by omega)) (by show (t.a.x + t.a.y) + (t.b.x + t.b.y) + (g.u + g.v) + (g.b.x + g.b.y) = a.x + a.y; omega)
  ·obtain ⟨⟨-, k9, j9, -, -, hpay⟩, hu, hv2⟩ := hz
   obtain ⟨⟨z91, z92⟩, z93⟩ := payR_ok hpay (by show 0 <= t.c.x + t.c.y; omega)
   have z93 : z.b.x + z.b.y = t.c.x + t.c.y := z93
   have z91 : 0 <= z.b.x := z91
   have z92 : 0 <= z.b.y := z92
   have hu : z.u = t.b.x + z.b.x := hu
   have hv2 : z.v = t.b.y + z.b.y := hv2
   exact ta2 _ _ _ _ _ _ _ _ _ _ i1 hlt hla ⟨k1, j1, h1⟩ ⟨s11, s12⟩ ⟨s13, s14⟩ ⟨k2, j2, h2⟩ (smI (show 0 <= z.u by omega) (show z.u <= 1000000 by omega)) (smI (show 0 <= z.v by omega) (show z.v <= 1000000 by omega)) (by show (t.a.x + t.a.y) + (z.u + z.v) = a.x + a.y; omega)
 ·obtain ⟨t, i⟩ := e
  obtain ⟨⟨i1, i2⟩, ok, tot⟩ := he
  have i1 : 0 <= i := i1
  have i2 : i <= a.l := i2
  have tot : (t.a.x + t.a.y) + (t.b.x + t.b.y) + (t.c.x + t.c.y) + (t.e.x + t.e.y) = a.x + a.y := tot
  obtain ⟨⟨⟨k1, j1, h1⟩, ⟨s11, s12⟩, s13, s14⟩, ⟨⟨k2, j2, h2⟩, ⟨s21, s22⟩, s23, s24⟩, ⟨⟨k3, j3, h3⟩, ⟨s31, s32⟩, s33, s34⟩, ⟨⟨k4, j4, h4⟩, ⟨s41, s42⟩, s43, s44⟩⟩ := ok
  have h1 : isG t.a.g t.a.p k1 j1 := h1
  have s11 : 0 <= t.a.x := s11
  have s12 : t.a.x <= 1000000 := s12
  have s13 : 0 <= t.a.y := s13
  have s14 : t.a.y <= 1000000 := s14
  obtain ⟨v11, v12, v13, v14, v15, v16, v17, v18, v19, v110, v111⟩ := flG_of h1
  have h2 : isG t.b.g t.b.p k2 j2 := h2
  have s21 : 0 <= t.b.x := s21
  have s22 : t.b.x <= 1000000 := s22
  have s23 : 0 <= t.b.y := s23
  have s24 : t.b.y <= 1000000 := s24
  obtain ⟨v21, v22, v23, v24, v25, v26, v27, v28, v29, v210, v211⟩ := flG_of h2
  have h3 : isG t.c.g t.c.p k3 j3 := h3
  have s31 : 0 <= t.c.x := s31
  have s32 : t.c.x <= 1000000 := s32
  have s33 : 0 <= t.c.y := s33
  have s34 : t.c.y <= 1000000 := s34
  obtain ⟨v31, v32, v33, v34, v35, v36, v37, v38, v39, v310, v311⟩ := flG_of h3
  have h4 : isG t.e.g t.e.p k4 j4 := h4
  have s41 : 0 <= t.e.x := s41
  have s42 : t.e.x <= 1000000 := s42
  have s43 : 0 <= t.e.y := s43
  have s44 : t.e.y <= 1000000 := s44
  obtain ⟨v41, v42, v43, v44, v45, v46, v47, v48, v49, v410, v411⟩ := flG_of h4
  refine ⟨fun hlt => ?_, fun hlt => ?_⟩
  rotate_left
  ·(repeat(apply And.intro;focus(and_intros<;>first|trivial|rfl)))
   refine ⟨⟨trivial, ⟨⟨⟨k1, j1, h1⟩, smI s11 s12, smI s13 s14⟩, ⟨⟨k2, j2, h2⟩, smI s21 s22, smI s23 s24⟩, ⟨⟨k3, j3, h3⟩, smI s31 s32, smI s33 s34⟩, ⟨⟨k4, j4, h4⟩, smI s41 s42, smI s43 s44⟩⟩⟩, by (and_intros<;>first|trivial|rfl), fun q hq => ?_, trivial⟩
   exact rl4 _ _ _ _ _ _ _ _ _ _ _ _ _ _ _ _ _ _ _ _ _ _ _ _ _ _ _ _ _ _ _ _ _ _ _ _ _ _ _ _ _ _ _ _ _ _ _ _ _ _ _ _ _ _ _ _ _ _ _ _ _ _ _ _ _ _ _ _ ⟨k1, j1, h1⟩ ⟨s11, s12⟩ ⟨s13, s14⟩ ⟨k2, j2, h2⟩ ⟨s21, s22⟩ ⟨s23, s24⟩ ⟨k3, j3, h3⟩ ⟨s31, s32⟩ ⟨s33, s34⟩ ⟨k4, j4, h4⟩ ⟨s41, s42⟩ ⟨s43, s44⟩ hq (by show (t.a.x + t.a.y) + (t.b.x + t.b.y) + (t.c.x + t.c.y) + (t.e.x + t.e.y) <= 200000; omega)
  have hlt : i < a.l := hlt
  obtain ⟨b1, o1, hv, w1, t1, z1, v1, va, vl, vc, ⟨q1, q2, q3, q4, q5⟩, ⟨r1, r2, r3⟩, htwo⟩ := hacts.2 i.toNat (by omega)
  refine ⟨⟨i1, hlt⟩, b1, o1, hv, fun p ep => ⟨w1, by rw [ep]; exact q1, t1, by rw [ep]; exact q2, z1, by rw [ep]; exact q3, v1, by rw [ep]; exact q4, va, vl, vc, by rw [ep]; exact q5, ?_⟩⟩
  (repeat(apply And.intro;focus(and_intros<;>first|trivial|rfl)))
  refine ⟨⟨trivial, ⟨k4, j4, h4⟩, ⟨⟨⟨s41, s42⟩, s43, s44⟩, ⟨⟨s31, s32⟩, s33, s34⟩⟩, ⟨r1, r2, r3⟩, htwo⟩, by (and_intros<;>first|trivial|rfl), fun m hm => ?_, fun er her => ?_, fun z hz => ?_, trivial⟩
  ·obtain ⟨k9, j9, m9, i91, -, i93⟩ := hm
   exact ta4 _ _ _ _ _ _ _ _ _ _ _ _ _ _ _ _ _ _ i1 hlt hla ⟨k1, j1, h1⟩ ⟨s11, s12⟩ ⟨s13, s14⟩ ⟨k2, j2, h2⟩ ⟨s21, s22⟩ ⟨s23, s24⟩ ⟨k3, j3, h3⟩ ⟨s31, s32⟩ ⟨s33, s34⟩ ⟨k9, m9, i93⟩ ⟨s41, s42⟩ ⟨s43, s44⟩ (by show (t.a.x + t.a.y) + (t.b.x + t.b.y) + (t.c.x + t.c.y) + (t.e.x + t.e.y) = a.x + a.y; omega)
  ·skip
   exact ta4 _ _ _ _ _ _ _ _ _ _ _ _ _ _ _ _ _ _ i1 hlt hla ⟨k1, j1, h1⟩ ⟨s11, s12⟩ ⟨s13, s14⟩ ⟨k2, j2, h2⟩ ⟨s21, s22⟩ ⟨s23, s24⟩ ⟨k3, j3, h3⟩ ⟨s31, s32⟩ ⟨s33, s34⟩ ⟨k4, j4, h4⟩ ⟨s41, s42⟩ ⟨s43, s44⟩ (by show (t.a.x + t.a.y) + (t.b.x + t.b.y) + (t.c.x + t.c.y) + (t.e.x + t.e.y) = a.x + a.y; omega)
  ·obtain ⟨⟨-, k9, j9, -, -, hpay⟩, hu, hv2⟩ := hz
   obtain ⟨⟨z91, z92⟩, z93⟩ := payR_ok hpay (by show 0 <= t.e.x + t.e.y; omega)
   have z93 : z.b.x + z.b.y = t.e.x + t.e.y := z93
   have z91 : 0 <= z.b.x := z91
   have z92 : 0 <= z.b.y := z92
   have hu : z.u = t.c.x + z.b.x := hu
   have hv2 : z.v = t.c.y + z.b.y := hv2
   exact ta3 _ _ _ _ _ _ _ _ _ _ _ _ _ _ i1 hlt hla ⟨k1, j1, h1⟩ ⟨s11, s12⟩ ⟨s13, s14⟩ ⟨k2, j2, h2⟩ ⟨s21, s22⟩ ⟨s23, s24⟩ ⟨k3, j3, h3⟩ (smI (show 0 <= z.u by omega) (show z.u <= 1000000 by omega)) (smI (show 0 <= z.v by omega) (show z.v <= 1000000 by omega)) (by show (t.a.x + t.a.y) + (t.b.x + t.b.y) + (z.u + z.v) = a.x + a.y; omega)
theorem s_popM2 : SpecOK Tryz.prog (S_popM 2).spec := fun a K hp hq => spec_to (S := S_pop 2) (T := S_popM 2) (a := a) (b := a) rfl rfl rfl rfl (s_pop2 a) hp (fun _ hq => ⟨fun b hb => hq.1 ⟨b, _, _⟩ ⟨hb, rfl, rfl⟩, hq.2.1, trivial⟩) K hp hq
theorem s_popM3 : SpecOK Tryz.prog (S_popM 3).spec := fun a K hp hq => spec_to (S := S_pop 3) (T := S_popM 3) (a := a) (b := a) rfl rfl rfl rfl (s_pop3 a) hp (fun _ hq => ⟨fun b hb => hq.1 ⟨b, _, _⟩ ⟨hb, rfl, rfl⟩, hq.2.1, trivial⟩) K hp hq
theorem s_popM4 : SpecOK Tryz.prog (S_popM 4).spec := fun a K hp hq => spec_to (S := S_pop 4) (T := S_popM 4) (a := a) (b := a) rfl rfl rfl rfl (s_pop4 a) hp (fun _ hq => ⟨fun b hb => hq.1 ⟨b, _, _⟩ ⟨hb, rfl, rfl⟩, hq.2.1, trivial⟩) K hp hq
theorem cwPp_ok : CwOK Tryz.prog (cwX cwPp 5) := cwX_ok (fun _ h => cwD_ok s_known (cwD_ok s_few (cwD_ok s_begin (cwE_ok s_doM1 (cwE_ok s_doM2 (cwE_ok s_doM3 (cwE_ok s_doM4 (cwE_ok s_held1 (cwE_ok s_held2 (cwE_ok s_held3 (cwE_ok s_held4 (cwE_ok (S := S_paysE 0) s_pays0 (cwE_ok (S := S_paysE 1) s_pays1 (cwE_ok (S := S_paysE 2) s_pays2 (cwE_ok (S := S_paysE 3) s_pays3
 (cwE_ok s_popM2 (cwE_ok s_popM3 (cwE_ok s_popM4 (cwE_ok s_pop1 (cwD_ok s_gturn (cwD_ok s_gclone (cwE_ok s_cl2 (cwD_ok s_gsame (cwD_ok s_lsame h)))))))))))))))))))))))) 5
theorem s_pops : SpecOK Tryz.prog S_pops.spec := fun a => specG_at (an := [some (la_pops a), none]) envOK cwPp_ok fun hp => g_pops a hp.1.1 hp.1.2.1 hp.1.2.2 hp.2
end Go.Proofs.YtfkacmmcgncooaaGreatDoor
