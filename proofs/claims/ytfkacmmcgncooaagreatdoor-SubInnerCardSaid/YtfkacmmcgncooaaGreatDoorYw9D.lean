/- A table within another one goes as it would by itself: the law. -/
import Derived.Test.YtfkacmmcgncooaaGreatDoorYwc
set_option maxRecDepth 100000
namespace Go.Proofs.YtfkacmmcgncooaaGreatDoor
open Go.Ev
variable [Frozen Tryz.prog]
noncomputable section
def W_G_inner_0 : InA → Option Addr := fun (a : InA) => a.5
def W_G_inner_1 : Nat → Nat → Option Addr := fun (x2 x3 : Nat) => some (Addr.mk x2 x3 none)
def W_G_inner_2 : InA → Option Addr := fun (a : InA) => a.8
def W_G_inner_3 : BkB → Option AO := fun (x21 : BkB) => some (AO.row ([Zp 14 0, sc 26 2, sc 27 2, sc 28 2, tgI .i64 x21.1.1.2.4, tgI .i64 x21.1.1.2.5, tgI .i64 x21.1.1.2.6, tgI
 .i64 x21.1.1.2.7, tgI .u64 x21.1.1.2.8, sc 29 2] ++ []) 83 (Md.grown 1))
def W_G_inner_4 : BkB → Option AO := fun (x21 : BkB) => some (AO.row [Zp 14 0, sc 96 2, sc 97 2, sc 98 2, tgI .i64 x21.1.1.2.4, tgI .i64 x21.1.1.2.5, tgI .i64 x21.1.1.2.6, tgI .i64
 x21.1.1.2.7, tgI .u64 x21.1.1.2.8, sc 99 2] 83 Md.own)
def W_G_inner_5 : Int → Int → Int → Int → Option Addr → Nat → Nat → Option AO := fun (x62 x63 x64 x65 : Int) (x66 : Option Addr) (x67 x68 : Nat) => some (AO.row [tgI .u8 x62, tgI
 .i64 x63, tgI .i32 x64, tgI .u8 x65, Value.iface 1000000010 (Value.slice x66 x67 x68)] 42 Md.own)
def W_G_inner_6 : MnB → MvB → Option AO := fun (x58 : MnB) (x72 : MvB) => some (AO.row [Zp 14 0, sc 26 2, sc 27 2, sc 28 2, tgI .i64 x58.1.1.2.4, tgI .i64 x58.1.1.2.5, tgI .i64
 x58.1.1.2.6, tgI .i64 x58.1.1.2.7, tgI .u64 x58.1.1.2.8, sc 29 2, Zp 30 0, sc 90 2, Value.slice (some (Addr.mk (Nat.add 90 (Nat.sub (30 + 16 + 1) 46)) 0 none)) 2 2, Value.slice
 (some (Addr.mk (Nat.add 90 (Nat.sub (30 + 16 + 2) 46)) 0 none)) 2 2, tgI .i64 x72.1.4, tgI .i64 x72.1.5, tgI .i64 x72.1.6, tgI .i64 x72.1.7, tgI .u64 x72.1.8, sc 45 2] 83 (Md.grown
 2))
def W_G_inner_7 : MvB → Option AO := fun (x72 : MvB) => some (AO.row [Zp 30 0, sc 98 2, sc 99 2, sc 100 2, tgI .i64 x72.1.4, tgI .i64 x72.1.5, tgI .i64 x72.1.6, tgI .i64 x72.1.7,
 tgI .u64 x72.1.8, sc 101 2] 83 Md.own)
def W_G_inner_8 : MvB → Option AO := fun (x79 : MvB) => some (AO.row [Zp 30 0, sc 93 2, Value.slice (some (Addr.mk (Nat.add 93 (Nat.sub (14 + 16 + 1) 30)) 0 none)) 2 2, Value.slice
 (some (Addr.mk (Nat.add 93 (Nat.sub (14 + 16 + 2) 30)) 0 none)) 2 2, tgI .i64 x79.1.4, tgI .i64 x79.1.5, tgI .i64 x79.1.6, tgI .i64 x79.1.7, tgI .u64 x79.1.8, sc 83 2] 83 (Md.grown
 1))
def W_G_inner_9 : MvB → Option AO := fun (x79 : MvB) => some (AO.row [Zp 30 0, sc 107 2, sc 108 2, sc 109 2, tgI .i64 x79.1.4, tgI .i64 x79.1.5, tgI .i64 x79.1.6, tgI .i64 x79.1.7,
 tgI .u64 x79.1.8, sc 110 2] 83 Md.own)
def W_G_inner_10 : MnB → Option AO := fun (x58 : MnB) => some (AO.row [Zp 14 0, sc 26 2, sc 27 2, sc 28 2, tgI .i64 x58.1.1.2.4, tgI .i64 x58.1.1.2.5, tgI .i64 x58.1.1.2.6, tgI
 .i64 x58.1.1.2.7, tgI .u64 x58.1.1.2.8, sc 29 2, Zp 30 0, sc 42 2, sc 43 2, sc 44 2, tgI .i64 x58.1.2.2.4, tgI .i64 x58.1.2.2.5, tgI .i64 x58.1.2.2.6, tgI .i64 x58.1.2.2.7, tgI
 .u64 x58.1.2.2.8, sc 45 2] 83 (Md.grown 2))
def W_G_inner_11 : MnB → Option AO := fun (x58 : MnB) => some (AO.row [Zp 30 0, sc 92 2, sc 93 2, sc 94 2, tgI .i64 x58.1.2.2.4, tgI .i64 x58.1.2.2.5, tgI .i64 x58.1.2.2.6, tgI
 .i64 x58.1.2.2.7, tgI .u64 x58.1.2.2.8, sc 95 2] 83 Md.own)
def W_G_inner_12 : MnB → Option AO := fun (x58 : MnB) => some (AO.row [Zp 30 0, sc 80 2, sc 81 2, sc 82 2, tgI .i64 x58.1.2.2.4, tgI .i64 x58.1.2.2.5, tgI .i64 x58.1.2.2.6, tgI
 .i64 x58.1.2.2.7, tgI .u64 x58.1.2.2.8, sc 83 2] 83 (Md.grown 1))
def W_G_inner_13 : MnB → Option AO := fun (x58 : MnB) => some (AO.row [Zp 30 0, sc 101 2, sc 102 2, sc 103 2, tgI .i64 x58.1.2.2.4, tgI .i64 x58.1.2.2.5, tgI .i64 x58.1.2.2.6, tgI
 .i64 x58.1.2.2.7, tgI .u64 x58.1.2.2.8, sc 104 2] 83 Md.own)
def W_G_inner_14 : MnB → Option AO := fun (x58 : MnB) => some (AO.row ([Zp 14 0, sc 26 2, sc 27 2, sc 28 2, tgI .i64 x58.1.1.2.4, tgI .i64 x58.1.1.2.5, tgI .i64 x58.1.1.2.6, tgI
 .i64 x58.1.1.2.7, tgI .u64 x58.1.1.2.8, sc 29 2] ++ ([Zp 30 0, sc 42 2, sc 43 2, sc 44 2, tgI .i64 x58.1.2.2.4, tgI .i64 x58.1.2.2.5, tgI .i64 x58.1.2.2.6, tgI .i64 x58.1.2.2.7,
 tgI .u64 x58.1.2.2.8, sc 45 2] ++ [])) 83 (Md.grown 2))
def W_G_inner_15 : MnB → Option AO := fun (x58 : MnB) => some (AO.row [Zp 14 0, sc 91 2, sc 92 2, sc 93 2, tgI .i64 x58.1.1.2.4, tgI .i64 x58.1.1.2.5, tgI .i64 x58.1.1.2.6, tgI
 .i64 x58.1.1.2.7, tgI .u64 x58.1.1.2.8, sc 94 2] 83 Md.own)
def W_G_inner_16 : BkB → Option AO := fun (x164 : BkB) => some (AO.row ([Zp 14 0, sc 26 2, sc 27 2, sc 28 2, tgI .i64 x164.1.1.2.4, tgI .i64 x164.1.1.2.5, tgI .i64 x164.1.1.2.6,
 tgI .i64 x164.1.1.2.7, tgI .u64 x164.1.1.2.8, sc 29 2] ++ ([Zp 30 0, sc 42 2, sc 43 2, sc 44 2, tgI .i64 x164.1.2.2.4, tgI .i64 x164.1.2.2.5, tgI .i64 x164.1.2.2.6, tgI .i64
 x164.1.2.2.7, tgI .u64 x164.1.2.2.8, sc 45 2] ++ [])) 83 (Md.grown 2))
def W_G_inner_17 : BkB → Option AO := fun (x164 : BkB) => some (AO.row [Zp 30 0, sc 96 2, sc 97 2, sc 98 2, tgI .i64 x164.1.2.2.4, tgI .i64 x164.1.2.2.5, tgI .i64 x164.1.2.2.6, tgI
 .i64 x164.1.2.2.7, tgI .u64 x164.1.2.2.8, sc 99 2] 83 Md.own)
def W_G_inner_18 : MnB → MvB → Option AO := fun (x204 : MnB) (x218 : MvB) => some (AO.row [Zp 14 0, sc 26 2, sc 27 2, sc 28 2, tgI .i64 x204.1.1.2.4, tgI .i64 x204.1.1.2.5, tgI
 .i64 x204.1.1.2.6, tgI .i64 x204.1.1.2.7, tgI .u64 x204.1.1.2.8, sc 29 2, Zp 30 0, sc 42 2, sc 43 2, sc 44 2, tgI .i64 x204.1.2.2.4, tgI .i64 x204.1.2.2.5, tgI .i64 x204.1.2.2.6,
 tgI .i64 x204.1.2.2.7, tgI .u64 x204.1.2.2.8, sc 45 2, Zp 46 0, sc 90 2, Value.slice (some (Addr.mk (Nat.add 90 (Nat.sub (46 + 16 + 1) 62)) 0 none)) 2 2, Value.slice (some (Addr.mk
 (Nat.add 90 (Nat.sub (46 + 16 + 2) 62)) 0 none)) 2 2, tgI .i64 x218.1.4, tgI .i64 x218.1.5, tgI .i64 x218.1.6, tgI .i64 x218.1.7, tgI .u64 x218.1.8, sc 61 2] 83 (Md.grown 3))
def W_G_inner_19 : MvB → Option AO := fun (x218 : MvB) => some (AO.row [Zp 46 0, sc 98 2, sc 99 2, sc 100 2, tgI .i64 x218.1.4, tgI .i64 x218.1.5, tgI .i64 x218.1.6, tgI .i64
 x218.1.7, tgI .u64 x218.1.8, sc 101 2] 83 Md.own)
def W_G_inner_20 : MvB → Option AO := fun (x225 : MvB) => some (AO.row [Zp 46 0, sc 93 2, Value.slice (some (Addr.mk (Nat.add 93 (Nat.sub (14 + 16 + 1) 30)) 0 none)) 2 2,
 Value.slice (some (Addr.mk (Nat.add 93 (Nat.sub (14 + 16 + 2) 30)) 0 none)) 2 2, tgI .i64 x225.1.4, tgI .i64 x225.1.5, tgI .i64 x225.1.6, tgI .i64 x225.1.7, tgI .u64 x225.1.8, sc
 83 2] 83 (Md.grown 1))
def W_G_inner_21 : MvB → Option AO := fun (x225 : MvB) => some (AO.row [Zp 46 0, sc 107 2, sc 108 2, sc 109 2, tgI .i64 x225.1.4, tgI .i64 x225.1.5, tgI .i64 x225.1.6, tgI .i64
 x225.1.7, tgI .u64 x225.1.8, sc 110 2] 83 Md.own)
def W_G_inner_22 : MnB → Option AO := fun (x204 : MnB) => some (AO.row [Zp 14 0, sc 26 2, sc 27 2, sc 28 2, tgI .i64 x204.1.1.2.4, tgI .i64 x204.1.1.2.5, tgI .i64 x204.1.1.2.6, tgI
 .i64 x204.1.1.2.7, tgI .u64 x204.1.1.2.8, sc 29 2, Zp 30 0, sc 42 2, sc 43 2, sc 44 2, tgI .i64 x204.1.2.2.4, tgI .i64 x204.1.2.2.5, tgI .i64 x204.1.2.2.6, tgI .i64 x204.1.2.2.7,
 tgI .u64 x204.1.2.2.8, sc 45 2, Zp 46 0, sc 58 2, sc 59 2, sc 60 2, tgI .i64 x204.1.3.2.4, tgI .i64 x204.1.3.2.5, tgI .i64 x204.1.3.2.6, tgI .i64 x204.1.3.2.7, tgI .u64
 x204.1.3.2.8, sc 61 2] 83 (Md.grown 3))
def W_G_inner_23 : MnB → Option AO := fun (x204 : MnB) => some (AO.row [Zp 46 0, sc 92 2, sc 93 2, sc 94 2, tgI .i64 x204.1.3.2.4, tgI .i64 x204.1.3.2.5, tgI .i64 x204.1.3.2.6, tgI
 .i64 x204.1.3.2.7, tgI .u64 x204.1.3.2.8, sc 95 2] 83 Md.own)
def W_G_inner_24 : MnB → Option AO := fun (x204 : MnB) => some (AO.row [Zp 46 0, sc 80 2, sc 81 2, sc 82 2, tgI .i64 x204.1.3.2.4, tgI .i64 x204.1.3.2.5, tgI .i64 x204.1.3.2.6, tgI
 .i64 x204.1.3.2.7, tgI .u64 x204.1.3.2.8, sc 83 2] 83 (Md.grown 1))
def W_G_inner_25 : MnB → Option AO := fun (x204 : MnB) => some (AO.row [Zp 46 0, sc 101 2, sc 102 2, sc 103 2, tgI .i64 x204.1.3.2.4, tgI .i64 x204.1.3.2.5, tgI .i64 x204.1.3.2.6,
 tgI .i64 x204.1.3.2.7, tgI .u64 x204.1.3.2.8, sc 104 2] 83 Md.own)
def W_G_inner_26 : MnB → Option AO := fun (x204 : MnB) => some (AO.row ([Zp 14 0, sc 26 2, sc 27 2, sc 28 2, tgI .i64 x204.1.1.2.4, tgI .i64 x204.1.1.2.5, tgI .i64 x204.1.1.2.6,
 tgI .i64 x204.1.1.2.7, tgI .u64 x204.1.1.2.8, sc 29 2] ++ ([Zp 30 0, sc 42 2, sc 43 2, sc 44 2, tgI .i64 x204.1.2.2.4, tgI .i64 x204.1.2.2.5, tgI .i64 x204.1.2.2.6, tgI .i64
 x204.1.2.2.7, tgI .u64 x204.1.2.2.8, sc 45 2] ++ ([Zp 46 0, sc 58 2, sc 59 2, sc 60 2, tgI .i64 x204.1.3.2.4, tgI .i64 x204.1.3.2.5, tgI .i64 x204.1.3.2.6, tgI .i64 x204.1.3.2.7,
 tgI .u64 x204.1.3.2.8, sc 61 2] ++ []))) 83 (Md.grown 3))
def W_G_inner_27 : MnB → Option AO := fun (x204 : MnB) => some (AO.row [Zp 30 0, sc 91 2, sc 92 2, sc 93 2, tgI .i64 x204.1.2.2.4, tgI .i64 x204.1.2.2.5, tgI .i64 x204.1.2.2.6, tgI
 .i64 x204.1.2.2.7, tgI .u64 x204.1.2.2.8, sc 94 2] 83 Md.own)
def W_G_inner_28 : BkB → Option AO := fun (x310 : BkB) => some (AO.row ([Zp 14 0, sc 26 2, sc 27 2, sc 28 2, tgI .i64 x310.1.1.2.4, tgI .i64 x310.1.1.2.5, tgI .i64 x310.1.1.2.6,
 tgI .i64 x310.1.1.2.7, tgI .u64 x310.1.1.2.8, sc 29 2] ++ ([Zp 30 0, sc 42 2, sc 43 2, sc 44 2, tgI .i64 x310.1.2.2.4, tgI .i64 x310.1.2.2.5, tgI .i64 x310.1.2.2.6, tgI .i64
 x310.1.2.2.7, tgI .u64 x310.1.2.2.8, sc 45 2] ++ ([Zp 46 0, sc 58 2, sc 59 2, sc 60 2, tgI .i64 x310.1.3.2.4, tgI .i64 x310.1.3.2.5, tgI .i64 x310.1.3.2.6, tgI .i64 x310.1.3.2.7,
 tgI .u64 x310.1.3.2.8, sc 61 2] ++ []))) 83 (Md.grown 3))
def W_G_inner_29 : BkB → Option AO := fun (x310 : BkB) => some (AO.row [Zp 46 0, sc 96 2, sc 97 2, sc 98 2, tgI .i64 x310.1.3.2.4, tgI .i64 x310.1.3.2.5, tgI .i64 x310.1.3.2.6, tgI
 .i64 x310.1.3.2.7, tgI .u64 x310.1.3.2.8, sc 99 2] 83 Md.own)
def W_G_inner_30 : MnB → MvB → Option AO := fun (x350 : MnB) (x364 : MvB) => some (AO.row [Zp 14 0, sc 26 2, sc 27 2, sc 28 2, tgI .i64 x350.1.1.2.4, tgI .i64 x350.1.1.2.5, tgI
 .i64 x350.1.1.2.6, tgI .i64 x350.1.1.2.7, tgI .u64 x350.1.1.2.8, sc 29 2, Zp 30 0, sc 42 2, sc 43 2, sc 44 2, tgI .i64 x350.1.2.2.4, tgI .i64 x350.1.2.2.5, tgI .i64 x350.1.2.2.6,
 tgI .i64 x350.1.2.2.7, tgI .u64 x350.1.2.2.8, sc 45 2, Zp 46 0, sc 58 2, sc 59 2, sc 60 2, tgI .i64 x350.1.3.2.4, tgI .i64 x350.1.3.2.5, tgI .i64 x350.1.3.2.6, tgI .i64
 x350.1.3.2.7, tgI .u64 x350.1.3.2.8, sc 61 2, Zp 62 0, sc 90 2, Value.slice (some (Addr.mk (Nat.add 90 (Nat.sub (62 + 16 + 1) 78)) 0 none)) 2 2, Value.slice (some (Addr.mk (Nat.add
 90 (Nat.sub (62 + 16 + 2) 78)) 0 none)) 2 2, tgI .i64 x364.1.4, tgI .i64 x364.1.5, tgI .i64 x364.1.6, tgI .i64 x364.1.7, tgI .u64 x364.1.8, sc 77 2] 83 (Md.grown 4))
def W_G_inner_31 : MvB → Option AO := fun (x364 : MvB) => some (AO.row [Zp 62 0, sc 98 2, sc 99 2, sc 100 2, tgI .i64 x364.1.4, tgI .i64 x364.1.5, tgI .i64 x364.1.6, tgI .i64
 x364.1.7, tgI .u64 x364.1.8, sc 101 2] 83 Md.own)
def W_G_inner_32 : MvB → Option AO := fun (x371 : MvB) => some (AO.row [Zp 62 0, sc 93 2, Value.slice (some (Addr.mk (Nat.add 93 (Nat.sub (14 + 16 + 1) 30)) 0 none)) 2 2,
 Value.slice (some (Addr.mk (Nat.add 93 (Nat.sub (14 + 16 + 2) 30)) 0 none)) 2 2, tgI .i64 x371.1.4, tgI .i64 x371.1.5, tgI .i64 x371.1.6, tgI .i64 x371.1.7, tgI .u64 x371.1.8, sc
 83 2] 83 (Md.grown 1))
def W_G_inner_33 : MvB → Option AO := fun (x371 : MvB) => some (AO.row [Zp 62 0, sc 107 2, sc 108 2, sc 109 2, tgI .i64 x371.1.4, tgI .i64 x371.1.5, tgI .i64 x371.1.6, tgI .i64
 x371.1.7, tgI .u64 x371.1.8, sc 110 2] 83 Md.own)
def W_G_inner_34 : MnB → Option AO := fun (x350 : MnB) => some (AO.row [Zp 14 0, sc 26 2, sc 27 2, sc 28 2, tgI .i64 x350.1.1.2.4, tgI .i64 x350.1.1.2.5, tgI .i64 x350.1.1.2.6, tgI
 .i64 x350.1.1.2.7, tgI .u64 x350.1.1.2.8, sc 29 2, Zp 30 0, sc 42 2, sc 43 2, sc 44 2, tgI .i64 x350.1.2.2.4, tgI .i64 x350.1.2.2.5, tgI .i64 x350.1.2.2.6, tgI .i64 x350.1.2.2.7,
 tgI .u64 x350.1.2.2.8, sc 45 2, Zp 46 0, sc 58 2, sc 59 2, sc 60 2, tgI .i64 x350.1.3.2.4, tgI .i64 x350.1.3.2.5, tgI .i64 x350.1.3.2.6, tgI .i64 x350.1.3.2.7, tgI .u64
 x350.1.3.2.8, sc 61 2, Zp 62 0, sc 74 2, sc 75 2, sc 76 2, tgI .i64 x350.1.4.2.4, tgI .i64 x350.1.4.2.5, tgI .i64 x350.1.4.2.6, tgI .i64 x350.1.4.2.7, tgI .u64 x350.1.4.2.8, sc 77
 2] 83 (Md.grown 4))
def W_G_inner_35 : MnB → Option AO := fun (x350 : MnB) => some (AO.row [Zp 62 0, sc 92 2, sc 93 2, sc 94 2, tgI .i64 x350.1.4.2.4, tgI .i64 x350.1.4.2.5, tgI .i64 x350.1.4.2.6, tgI
 .i64 x350.1.4.2.7, tgI .u64 x350.1.4.2.8, sc 95 2] 83 Md.own)
def W_G_inner_36 : MnB → Option AO := fun (x350 : MnB) => some (AO.row [Zp 62 0, sc 80 2, sc 81 2, sc 82 2, tgI .i64 x350.1.4.2.4, tgI .i64 x350.1.4.2.5, tgI .i64 x350.1.4.2.6, tgI
 .i64 x350.1.4.2.7, tgI .u64 x350.1.4.2.8, sc 83 2] 83 (Md.grown 1))
def W_G_inner_37 : MnB → Option AO := fun (x350 : MnB) => some (AO.row [Zp 62 0, sc 101 2, sc 102 2, sc 103 2, tgI .i64 x350.1.4.2.4, tgI .i64 x350.1.4.2.5, tgI .i64 x350.1.4.2.6,
 tgI .i64 x350.1.4.2.7, tgI .u64 x350.1.4.2.8, sc 104 2] 83 Md.own)
def W_G_inner_38 : MnB → Option AO := fun (x350 : MnB) => some (AO.row ([Zp 14 0, sc 26 2, sc 27 2, sc 28 2, tgI .i64 x350.1.1.2.4, tgI .i64 x350.1.1.2.5, tgI .i64 x350.1.1.2.6,
 tgI .i64 x350.1.1.2.7, tgI .u64 x350.1.1.2.8, sc 29 2] ++ ([Zp 30 0, sc 42 2, sc 43 2, sc 44 2, tgI .i64 x350.1.2.2.4, tgI .i64 x350.1.2.2.5, tgI .i64 x350.1.2.2.6, tgI .i64
 x350.1.2.2.7, tgI .u64 x350.1.2.2.8, sc 45 2] ++ ([Zp 46 0, sc 58 2, sc 59 2, sc 60 2, tgI .i64 x350.1.3.2.4, tgI .i64 x350.1.3.2.5, tgI .i64 x350.1.3.2.6, tgI .i64 x350.1.3.2.7,
 tgI .u64 x350.1.3.2.8, sc 61 2] ++ ([Zp 62 0, sc 74 2, sc 75 2, sc 76 2, tgI .i64 x350.1.4.2.4, tgI .i64 x350.1.4.2.5, tgI .i64 x350.1.4.2.6, tgI .i64 x350.1.4.2.7, tgI .u64
 x350.1.4.2.8, sc 77 2] ++ [])))) 83 (Md.grown 4))
def W_G_inner_39 : MnB → Option AO := fun (x350 : MnB) => some (AO.row [Zp 46 0, sc 91 2, sc 92 2, sc 93 2, tgI .i64 x350.1.3.2.4, tgI .i64 x350.1.3.2.5, tgI .i64 x350.1.3.2.6, tgI
 .i64 x350.1.3.2.7, tgI .u64 x350.1.3.2.8, sc 94 2] 83 Md.own)
def W_G_inner_40 : BkB → Option AO := fun (x456 : BkB) => some (AO.row ([Zp 14 0, sc 26 2, sc 27 2, sc 28 2, tgI .i64 x456.1.1.2.4, tgI .i64 x456.1.1.2.5, tgI .i64 x456.1.1.2.6,
 tgI .i64 x456.1.1.2.7, tgI .u64 x456.1.1.2.8, sc 29 2] ++ ([Zp 30 0, sc 42 2, sc 43 2, sc 44 2, tgI .i64 x456.1.2.2.4, tgI .i64 x456.1.2.2.5, tgI .i64 x456.1.2.2.6, tgI .i64
 x456.1.2.2.7, tgI .u64 x456.1.2.2.8, sc 45 2] ++ ([Zp 46 0, sc 58 2, sc 59 2, sc 60 2, tgI .i64 x456.1.3.2.4, tgI .i64 x456.1.3.2.5, tgI .i64 x456.1.3.2.6, tgI .i64 x456.1.3.2.7,
 tgI .u64 x456.1.3.2.8, sc 61 2] ++ ([Zp 62 0, sc 74 2, sc 75 2, sc 76 2, tgI .i64 x456.1.4.2.4, tgI .i64 x456.1.4.2.5, tgI .i64 x456.1.4.2.6, tgI .i64 x456.1.4.2.7, tgI .u64
 x456.1.4.2.8, sc 77 2] ++ [])))) 83 (Md.grown 4))
def W_G_inner_41 : BkB → Option AO := fun (x456 : BkB) => some (AO.row [Zp 62 0, sc 96 2, sc 97 2, sc 98 2, tgI .i64 x456.1.4.2.4, tgI .i64 x456.1.4.2.5, tgI .i64 x456.1.4.2.6, tgI
 .i64 x456.1.4.2.7, tgI .u64 x456.1.4.2.8, sc 99 2] 83 Md.own)
abbrev QYw9D_1 (a0 : RuA) (a1 : RuA) : Prop := True ∧ (2 : Int) = 2 ∧ (2 : Int) = 2 ∧ Z2 ∧ (0 = 0 ∧ 1 = 1 ∧ 1 = 1) ∧ (0 = 0 ∧ a0.1 = a1.1 ∧ a0.1 = a1.1) ∧ (0 = 0 ∧ a0.2 = a1.2 ∧
 a0.2 = a1.2) ∧ (0 = 0 ∧ a0.3 = a1.3 ∧ a0.3 = a1.3) ∧ (0 = 0 ∧ a0.4 = a1.4 ∧ a0.4 = a1.4) ∧ (0 = 0 ∧ a0.5 = a1.5 ∧ a0.5 = a1.5) ∧ a0.6 = a1.6 ∧ a0.7 = a1.7 ∧ a0.8 = a1.8 ∧ a0.9 =
 a1.9 ∧ a0.10 = a1.10 ∧ True
abbrev QYw9D_5 (a0 : RuA) (a1 : RuA) : Prop := True ∧ True ∧ Z2 ∧ a0.19.1 = a1.19.1 ∧ a0.19.2 = a1.19.2 ∧ a0.19.3 = a1.19.3 ∧ a0.19.4 = a1.19.4 ∧ a0.19.5 = a1.19.5 ∧ a0.19.6 =
 a1.19.6 ∧ a0.19.7 = a1.19.7 ∧ a0.19.8 = a1.19.8 ∧ 0 = 0 ∧ (0 = 0 ∧ 1 = 1 ∧ 1 = 1) ∧ Z2 ∧ True
abbrev QYw9D_9 : Prop := True ∧ FlatL [Value.int .i64 1, Value.int .i64 1] ∧ [Value.int .i64 1, Value.int .i64 1] = [Value.int .i64 1, Value.int .i64 1]
abbrev QYw9D_10 : Prop := True ∧ FlatL [Value.int .i32 0, Value.int .i32 0] ∧ [Value.int .i32 0, Value.int .i32 0] = [Value.int .i32 0, Value.int .i32 0]
abbrev QYw9D_33 (a0 : PoA) (a1 : PoA) : Prop := Z2 ∧ Z2 ∧ Z2 ∧ a0.4 = a1.4 ∧ a0.5 = a1.5 ∧ a0.6 = a1.6 ∧ a0.7 = a1.7 ∧ a0.8 = a1.8 ∧ Z2 ∧ True
abbrev QYw9D_51 (a0 : RuA) (a1 : RuA) (a2 : PoA) (a3 : PoA) : Prop := True ∧ a0.19.1 = a1.19.1 ∧ a0.19.2 = a1.19.2 ∧ a0.19.3 = a1.19.3 ∧ a0.19.4 = a1.19.4 ∧ a0.19.5 = a1.19.5 ∧
 a0.19.6 = a1.19.6 ∧ a0.19.7 = a1.19.7 ∧ a0.19.8 = a1.19.8 ∧ QYw9D_33 a2 a3
abbrev QYw9D_2 (a0 : RuA) (a1 : RuA) (a2 : PoA) (a3 : PoA) (a4 : RuA) (a5 : RuA) (a6 : PoA) (a7 : PoA) (a8 : Int) (a9 : Int) (a10 : Int) (a11 : Int) (a12 : Int) (a13 : Int) (a14 :
 Int) (a15 : Int) : Prop := QYw9D_5 a0 a1 ∧ QYw9D_9 ∧ QYw9D_1 a0 a1 ∧ QYw9D_10 ∧ (True ∧ FlatL a0.11 ∧ a0.11 = a1.11) ∧ (True ∧ FlatL a0.12 ∧ a0.12 = a1.12) ∧ (True ∧ FlatL a0.13 ∧
 a0.13 = a1.13) ∧ (True ∧ FlatL a0.14 ∧ a0.14 = a1.14) ∧ (True ∧ FlatL a0.15 ∧ a0.15 = a1.15) ∧ (True ∧ FlatL a0.16 ∧ a0.16 = a1.16) ∧ (True ∧ FlatL a0.17 ∧ a0.17 = a1.17) ∧ (True ∧
 FlatL a0.18 ∧ a0.18 = a1.18) ∧ (True ∧ FlatL a2.1 ∧ a2.1 = a3.1) ∧ (True ∧ FlatL a2.2 ∧ a2.2 = a3.2) ∧ (True ∧ FlatL a2.3 ∧ a2.3 = a3.3) ∧ QYw9D_5 a4 a5 ∧ QYw9D_9 ∧ QYw9D_1 a4 a5 ∧
 QYw9D_10 ∧ (True ∧ FlatL a4.11 ∧ a4.11 = a5.11) ∧ (True ∧ FlatL a4.12 ∧ a4.12 = a5.12) ∧ (True ∧ FlatL a4.13 ∧ a4.13 = a5.13) ∧ (True ∧ FlatL a4.14 ∧ a4.14 = a5.14) ∧ (True ∧ FlatL
 a4.15 ∧ a4.15 = a5.15) ∧ (True ∧ FlatL a4.16 ∧ a4.16 = a5.16) ∧ (True ∧ FlatL a4.17 ∧ a4.17 = a5.17) ∧ (True ∧ FlatL a4.18 ∧ a4.18 = a5.18) ∧ (True ∧ FlatL a6.1 ∧ a6.1 = a7.1) ∧
 (True ∧ FlatL a6.2 ∧ a6.2 = a7.2) ∧ (True ∧ FlatL a6.3 ∧ a6.3 = a7.3) ∧ ZF cells0 ∧ ZF cells1 ∧ ZF cells2 ∧ ZF cells4 ∧ ZF cells5 ∧ ZF cells6 ∧ ZF cells8 ∧ ZF cells9 ∧ ZF cells10 ∧
 (True ∧ (0 = 0 ∧ 1 = 1 ∧ 1 = 1) ∧ True) ∧ (1 = 1 ∧ 0 = 0 ∧ QYw9D_33 a6 a7) ∧ (2 = 2 ∧ a8 = a9 ∧ a10 = a11 ∧ True) ∧ (True ∧ FlatL a6.1 ∧ a6.1 = a7.1) ∧ (True ∧ FlatL a6.2 ∧ a6.2 =
 a7.2) ∧ (True ∧ FlatL a6.3 ∧ a6.3 = a7.3) ∧ QYw9D_51 a0 a1 a2 a3 ∧ (True ∧ FlatL a2.1 ∧ a2.1 = a3.1) ∧ (True ∧ FlatL a2.2 ∧ a2.2 = a3.2) ∧ (True ∧ FlatL a2.3 ∧ a2.3 = a3.3) ∧ (2 =
 2 ∧ a12 = a13 ∧ a14 = a15 ∧ True) ∧ True
abbrev QYw9D_27 (a0 : RuA) : Prop := True ∧ True ∧ Z2 ∧ Z1 a0.19.1 ∧ Z1 a0.19.2 ∧ Z1 a0.19.3 ∧ Z1 a0.19.4 ∧ Z1 a0.19.5 ∧ Z1 a0.19.6 ∧ Z1 a0.19.7 ∧ Z1 a0.19.8 ∧ 0 = 0 ∧ (0 = 0 ∧ 1 =
 1 ∧ 1 = 1) ∧ Z2 ∧ True
abbrev QYw9D_19 (a0 : RuA) : Prop := True ∧ (2 : Int) = 2 ∧ (2 : Int) = 2 ∧ Z2 ∧ (0 = 0 ∧ 1 = 1 ∧ 1 = 1) ∧ (0 = 0 ∧ Z1 a0.1 ∧ Z1 a0.1) ∧ (0 = 0 ∧ Z1 a0.2 ∧ Z1 a0.2) ∧ (0 = 0 ∧ Z1
 a0.3 ∧ Z1 a0.3) ∧ (0 = 0 ∧ Z1 a0.4 ∧ Z1 a0.4) ∧ (0 = 0 ∧ Z1 a0.5 ∧ Z1 a0.5) ∧ Z1 a0.6 ∧ Z1 a0.7 ∧ Z1 a0.8 ∧ Z1 a0.9 ∧ Z1 a0.10 ∧ True
abbrev QYw9D_38 : Prop := ZF cells0 ∧ ZF cells1 ∧ ZF cells2 ∧ ZF cells4 ∧ ZF cells5 ∧ ZF cells6 ∧ ZF cells8 ∧ ZF cells9 ∧ ZF cells10 ∧ True
abbrev QYw9D_3 (a0 : GvA) : Prop := QYw9D_27 a0.1 ∧ QYw9D_9 ∧ QYw9D_19 a0.1 ∧ QYw9D_10 ∧ ZF a0.1.11 ∧ ZF a0.1.12 ∧ ZF a0.1.13 ∧ ZF a0.1.14 ∧ ZF a0.1.15 ∧ ZF a0.1.16 ∧ ZF a0.1.17 ∧
 ZF a0.1.18 ∧ ZF a0.2.1 ∧ ZF a0.2.2 ∧ ZF a0.2.3 ∧ QYw9D_38
abbrev QYw9D_4 (a0 : RuA) (a1 : PoA) : Prop := QYw9D_27 a0 ∧ QYw9D_9 ∧ QYw9D_19 a0 ∧ QYw9D_10 ∧ ZF a0.11 ∧ ZF a0.12 ∧ ZF a0.13 ∧ ZF a0.14 ∧ ZF a0.15 ∧ ZF a0.16 ∧ ZF a0.17 ∧ ZF
 a0.18 ∧ ZF a1.1 ∧ ZF a1.2 ∧ ZF a1.3 ∧ ZF cells2 ∧ True
abbrev QYw9D_12 (a0 : Int) (a1 : Int) (a2 : Int) (a3 : Int) : Prop := lwin [Value.iface 1000000007 (Value.int .i64 a0), Value.iface 1000000007 (Value.int .i64 a1)] 0 2 =
 [Value.iface 1000000007 (Value.int .i64 a2), Value.iface 1000000007 (Value.int .i64 a3)]
abbrev QYw9D_6 (a0 : Int) (a1 : Int) : Prop := True ∧ (2 ≤ 2 ∧ 0 + 2 ≤ List.length [Value.iface 1000000007 (Value.int .i64 a0), Value.iface 1000000007 (Value.int .i64 a1)] ∧ FlatL
 [Value.iface 1000000007 (Value.int .i64 a0), Value.iface 1000000007 (Value.int .i64 a1)]) ∧ ∃ (b0 b1 : Int), QYw9D_12 a0 a1 b0 b1
abbrev QYw9D_7 (a0 : RuA) (a1 : RuA) (a2 : PoA) (a3 : PoA) (a4 : RuA) (a5 : RuA) (a6 : PoA) (a7 : PoA) : Prop := QYw9D_5 a0 a1 ∧ QYw9D_9 ∧ QYw9D_1 a0 a1 ∧ QYw9D_10 ∧ (True ∧ FlatL
 a0.11 ∧ a0.11 = a1.11) ∧ (True ∧ FlatL a0.12 ∧ a0.12 = a1.12) ∧ (True ∧ FlatL a0.13 ∧ a0.13 = a1.13) ∧ (True ∧ FlatL a0.14 ∧ a0.14 = a1.14) ∧ (True ∧ FlatL a0.15 ∧ a0.15 = a1.15) ∧
 (True ∧ FlatL a0.16 ∧ a0.16 = a1.16) ∧ (True ∧ FlatL a0.17 ∧ a0.17 = a1.17) ∧ (True ∧ FlatL a0.18 ∧ a0.18 = a1.18) ∧ (True ∧ FlatL a2.1 ∧ a2.1 = a3.1) ∧ (True ∧ FlatL a2.2 ∧ a2.2 =
 a3.2) ∧ (True ∧ FlatL a2.3 ∧ a2.3 = a3.3) ∧ ZF cells0 ∧ ZF cells1 ∧ ZF cells2 ∧ ZF cells4 ∧ ZF cells5 ∧ ZF cells6 ∧ ZF cells8 ∧ ZF cells9 ∧ ZF cells10 ∧ QYw9D_5 a4 a5 ∧ QYw9D_9 ∧
 QYw9D_1 a4 a5 ∧ QYw9D_10 ∧ (True ∧ FlatL a4.11 ∧ a4.11 = a5.11) ∧ (True ∧ FlatL a4.12 ∧ a4.12 = a5.12) ∧ (True ∧ FlatL a4.13 ∧ a4.13 = a5.13) ∧ (True ∧ FlatL a4.14 ∧ a4.14 = a5.14)
 ∧ (True ∧ FlatL a4.15 ∧ a4.15 = a5.15) ∧ (True ∧ FlatL a4.16 ∧ a4.16 = a5.16) ∧ (True ∧ FlatL a4.17 ∧ a4.17 = a5.17) ∧ (True ∧ FlatL a4.18 ∧ a4.18 = a5.18) ∧ (True ∧ FlatL a6.1 ∧
 a6.1 = a7.1) ∧ (True ∧ FlatL a6.2 ∧ a6.2 = a7.2) ∧ (True ∧ FlatL a6.3 ∧ a6.3 = a7.3) ∧ (True ∧ Z2 ∧ Z2 ∧ Z2 ∧ a6.4 = a7.4 ∧ a6.5 = a7.5 ∧ a6.6 = a7.6 ∧ a6.7 = a7.7 ∧ a6.8 = a7.8 ∧
 True) ∧ True
abbrev QYw9D_8 (a0 : Int) (a1 : Int) : Prop := ((false = false ∧ 0 = 0 ∧ 2 = 2 ∧ 2 = 2) ∧ True) ∧ (True ∧ FlatL [Value.iface 1000000007 (Value.int .i64 a0), Value.iface 1000000007
 (Value.int .i64 a1)] ∧ [Value.iface 1000000007 (Value.int .i64 a0), Value.iface 1000000007 (Value.int .i64 a1)] = [Value.iface 1000000007 (Value.int .i64 a0), Value.iface
 1000000007 (Value.int .i64 a1)]) ∧ True
abbrev QYw9D_11 (a0 : List Value) (a1 : List Value) : Prop := True ∧ FlatL a0 ∧ a0 = a1
abbrev QYw9D_13 (a0 : PoA) : Prop := Z2 ∧ Z2 ∧ Z2 ∧ Z1 a0.4 ∧ Z1 a0.5 ∧ Z1 a0.6 ∧ Z1 a0.7 ∧ Z1 a0.8 ∧ True
abbrev QYw9D_28 (a0 : GvA) : Prop := isGx a0.1 a0.2 ∧ smQ a0.3 ∧ smQ a0.4
abbrev QYw9D_54 (a0 : MnB) (a1 : Nat) : Prop := ((0 : Int) ≤ a0.2 ∧ a0.2 ≤ (↑a1 : Int)) ∧ QYw9D_28 a0.1.1 ∧ QYw9D_28 a0.1.2 ∧ QYw9D_28 a0.1.3 ∧ QYw9D_28 a0.1.4
abbrev QYw9D_45 (a0 : Nat) (a1 : Int) (a2 : Int) : Prop := Int.toNat ((↑a0 : Int) - a1) < Int.toNat ((↑a0 : Int) - a2)
abbrev QYw9D_31 (a0 : Option Addr) (a1 : Nat) (a2 : Nat) (a3 : Int) (a4 : Int) : Prop := 0 = 0 ∧ 0 = 0 ∧ Value.slice a0 a1 a2 = Value.slice a0 a1 a2 ∧ (↑a1 : Int) = (↑a1 : Int) ∧
 a3 = a4 ∧ True
abbrev QYw9D_18 (a0 : PoA) (a1 : PoA) (a2 : PoA) (a3 : PoA) : Prop := 0 = 0 ∧ Z2 ∧ Z2 ∧ Z2 ∧ a0.4 = a1.4 ∧ a0.5 = a1.5 ∧ a0.6 = a1.6 ∧ a0.7 = a1.7 ∧ a0.8 = a1.8 ∧ Z2 ∧ 0 = 0 ∧
 QYw9D_33 a2 a3
abbrev QYw9D_37 (a0 : PoA) (a1 : PoA) (a2 : PoA) (a3 : PoA) (a4 : PoA) (a5 : PoA) : Prop := 0 = 0 ∧ Z2 ∧ Z2 ∧ Z2 ∧ a0.4 = a1.4 ∧ a0.5 = a1.5 ∧ a0.6 = a1.6 ∧ a0.7 = a1.7 ∧ a0.8 =
 a1.8 ∧ Z2 ∧ QYw9D_18 a2 a3 a4 a5
abbrev QYw9D_68 (a0 : PoA) (a1 : PoA) (a2 : PoA) (a3 : PoA) (a4 : PoA) (a5 : PoA) (a6 : PoA) (a7 : PoA) : Prop := 4 = 4 ∧ 0 = 0 ∧ Z2 ∧ Z2 ∧ Z2 ∧ a0.4 = a1.4 ∧ a0.5 = a1.5 ∧ a0.6 =
 a1.6 ∧ a0.7 = a1.7 ∧ a0.8 = a1.8 ∧ Z2 ∧ QYw9D_37 a2 a3 a4 a5 a6 a7
abbrev QYw9D_41 (a0 : GvA) (a1 : GvA) : Prop := 2 = 2 ∧ a0.3 = a1.3 ∧ a0.4 = a1.4 ∧ True
abbrev QYw9D_14 (a0 : MnB) (a1 : InA) : Prop := ∀ (b0 : Int), b0 = IntKind.wrap .i64 (a0.2 + (1 : Int)) → ∃ (b1 : MnB), QYw9D_54 b1 a1.9 ∧ QYw9D_45 a1.9 b1.2 a0.2 ∧ (0 = 0 ∧ (3 :
 Int) = 3 ∧ QYw9D_31 a1.8 a1.9 a1.10 b1.2 b0) ∧ ((True ∧ (0 = 0 ∧ 4 = 4 ∧ 4 = 4) ∧ True) ∧ QYw9D_68 b1.1.1.2 a0.1.1.2 b1.1.2.2 a0.1.2.2 b1.1.3.2 a0.1.3.2 b1.1.4.2 a0.1.4.2 ∧
 QYw9D_41 b1.1.1 a0.1.1 ∧ QYw9D_41 b1.1.2 a0.1.2 ∧ QYw9D_41 b1.1.3 a0.1.3 ∧ QYw9D_41 b1.1.4 a0.1.4 ∧ QYw9D_5 b1.1.1.1 a0.1.1.1 ∧ QYw9D_9 ∧ QYw9D_1 b1.1.1.1 a0.1.1.1 ∧ QYw9D_10 ∧
 QYw9D_11 b1.1.1.1.11 a0.1.1.1.11 ∧ QYw9D_11 b1.1.1.1.12 a0.1.1.1.12 ∧ QYw9D_11 b1.1.1.1.13 a0.1.1.1.13 ∧ QYw9D_11 b1.1.1.1.14 a0.1.1.1.14 ∧ QYw9D_11 b1.1.1.1.15 a0.1.1.1.15 ∧
 QYw9D_11 b1.1.1.1.16 a0.1.1.1.16 ∧ QYw9D_11 b1.1.1.1.17 a0.1.1.1.17 ∧ QYw9D_11 b1.1.1.1.18 a0.1.1.1.18 ∧ QYw9D_11 b1.1.1.2.1 a0.1.1.2.1 ∧ QYw9D_11 b1.1.1.2.2 a0.1.1.2.2 ∧ QYw9D_11
 b1.1.1.2.3 a0.1.1.2.3 ∧ QYw9D_5 b1.1.2.1 a0.1.2.1 ∧ QYw9D_9 ∧ QYw9D_1 b1.1.2.1 a0.1.2.1 ∧ QYw9D_10 ∧ QYw9D_11 b1.1.2.1.11 a0.1.2.1.11 ∧ QYw9D_11 b1.1.2.1.12 a0.1.2.1.12 ∧ QYw9D_11
 b1.1.2.1.13 a0.1.2.1.13 ∧ QYw9D_11 b1.1.2.1.14 a0.1.2.1.14 ∧ QYw9D_11 b1.1.2.1.15 a0.1.2.1.15 ∧ QYw9D_11 b1.1.2.1.16 a0.1.2.1.16 ∧ QYw9D_11 b1.1.2.1.17 a0.1.2.1.17 ∧ QYw9D_11
 b1.1.2.1.18 a0.1.2.1.18 ∧ QYw9D_11 b1.1.2.2.1 a0.1.2.2.1 ∧ QYw9D_11 b1.1.2.2.2 a0.1.2.2.2 ∧ QYw9D_11 b1.1.2.2.3 a0.1.2.2.3 ∧ QYw9D_2 b1.1.3.1 a0.1.3.1 b1.1.3.2 a0.1.3.2 b1.1.4.1
 a0.1.4.1 b1.1.4.2 a0.1.4.2 b1.1.4.3 a0.1.4.3 b1.1.4.4 a0.1.4.4 b1.1.3.3 a0.1.3.3 b1.1.3.4 a0.1.3.4) ∧ True
abbrev QYw9D_15 (a0 : PoA) : Prop := True ∧ ∃ (b0 b1 : Nat), (b0, b1) ∈ allG ∧ PoA.mk a0.1 a0.2 a0.3 a0.4 a0.5 a0.6 a0.7 a0.8 = posG b0 b1
abbrev QYw9D_16 (a0 : RuA) (a1 : RuA) (a2 : PoA) (a3 : PoA) (a4 : RuA) (a5 : RuA) (a6 : PoA) (a7 : PoA) (a8 : Int) (a9 : Int) (a10 : Int) (a11 : Int) (a12 : Int) (a13 : Int) : Prop
 := QYw9D_5 a0 a1 ∧ QYw9D_9 ∧ QYw9D_1 a0 a1 ∧ QYw9D_10 ∧ QYw9D_11 a0.11 a1.11 ∧ QYw9D_11 a0.12 a1.12 ∧ QYw9D_11 a0.13 a1.13 ∧ QYw9D_11 a0.14 a1.14 ∧ QYw9D_11 a0.15 a1.15 ∧ QYw9D_11
 a0.16 a1.16 ∧ QYw9D_11 a0.17 a1.17 ∧ QYw9D_11 a0.18 a1.18 ∧ QYw9D_11 a2.1 a3.1 ∧ QYw9D_11 a2.2 a3.2 ∧ QYw9D_11 a2.3 a3.3 ∧ QYw9D_5 a4 a5 ∧ QYw9D_9 ∧ QYw9D_1 a4 a5 ∧ QYw9D_10 ∧
 QYw9D_11 a4.11 a5.11 ∧ QYw9D_11 a4.12 a5.12 ∧ QYw9D_11 a4.13 a5.13 ∧ QYw9D_11 a4.14 a5.14 ∧ QYw9D_11 a4.15 a5.15 ∧ QYw9D_11 a4.16 a5.16 ∧ QYw9D_11 a4.17 a5.17 ∧ QYw9D_11 a4.18
 a5.18 ∧ QYw9D_11 a6.1 a7.1 ∧ QYw9D_11 a6.2 a7.2 ∧ QYw9D_11 a6.3 a7.3 ∧ ZF cells0 ∧ ZF cells1 ∧ ZF cells2 ∧ ZF cells4 ∧ ZF cells5 ∧ ZF cells6 ∧ ZF cells8 ∧ ZF cells9 ∧ ZF cells10 ∧
 (True ∧ (0 = 0 ∧ 1 = 1 ∧ 1 = 1) ∧ True) ∧ (1 = 1 ∧ 0 = 0 ∧ QYw9D_33 a6 a7) ∧ (2 = 2 ∧ a8 = Int.ofNat 0 ∧ a9 = Int.ofNat 0 ∧ True) ∧ QYw9D_11 a6.1 a7.1 ∧ QYw9D_11 a6.2 a7.2 ∧
 QYw9D_11 a6.3 a7.3 ∧ QYw9D_51 a0 a1 a2 a3 ∧ QYw9D_11 a2.1 a3.1 ∧ QYw9D_11 a2.2 a3.2 ∧ QYw9D_11 a2.3 a3.3 ∧ (2 = 2 ∧ a10 = a11 ∧ a12 = a13 ∧ True) ∧ True
abbrev QYw9D_17 (a0 : RuA) (a1 : RuA) (a2 : PoA) (a3 : PoA) (a4 : RuA) (a5 : RuA) (a6 : PoA) (a7 : PoA) (a8 : PoA) (a9 : Int) (a10 : Int) (a11 : Int) (a12 : Int) (a13 : Int) (a14 :
 Int) (a15 : Int) (a16 : Int) : Prop := QYw9D_5 a0 a1 ∧ QYw9D_9 ∧ QYw9D_1 a0 a1 ∧ QYw9D_10 ∧ QYw9D_11 a0.11 a1.11 ∧ QYw9D_11 a0.12 a1.12 ∧ QYw9D_11 a0.13 a1.13 ∧ QYw9D_11 a0.14
 a1.14 ∧ QYw9D_11 a0.15 a1.15 ∧ QYw9D_11 a0.16 a1.16 ∧ QYw9D_11 a0.17 a1.17 ∧ QYw9D_11 a0.18 a1.18 ∧ QYw9D_11 a2.1 a3.1 ∧ QYw9D_11 a2.2 a3.2 ∧ QYw9D_11 a2.3 a3.3 ∧ QYw9D_5 a4 a5 ∧
 QYw9D_9 ∧ QYw9D_1 a4 a5 ∧ QYw9D_10 ∧ QYw9D_11 a4.11 a5.11 ∧ QYw9D_11 a4.12 a5.12 ∧ QYw9D_11 a4.13 a5.13 ∧ QYw9D_11 a4.14 a5.14 ∧ QYw9D_11 a4.15 a5.15 ∧ QYw9D_11 a4.16 a5.16 ∧
 QYw9D_11 a4.17 a5.17 ∧ QYw9D_11 a4.18 a5.18 ∧ QYw9D_11 a6.1 a7.1 ∧ QYw9D_11 a6.2 a7.2 ∧ QYw9D_11 a6.3 a7.3 ∧ ZF cells0 ∧ ZF cells1 ∧ ZF cells2 ∧ ZF cells4 ∧ ZF cells5 ∧ ZF cells6 ∧
 ZF cells8 ∧ ZF cells9 ∧ ZF cells10 ∧ (True ∧ (0 = 0 ∧ 1 = 1 ∧ 1 = 1) ∧ True) ∧ (1 = 1 ∧ 0 = 0 ∧ QYw9D_33 a6 a8) ∧ (2 = 2 ∧ a9 = a10 ∧ a11 = a12 ∧ True) ∧ QYw9D_11 a6.1 a8.1 ∧
 QYw9D_11 a6.2 a8.2 ∧ QYw9D_11 a6.3 a8.3 ∧ QYw9D_51 a0 a1 a2 a3 ∧ QYw9D_11 a2.1 a3.1 ∧ QYw9D_11 a2.2 a3.2 ∧ QYw9D_11 a2.3 a3.3 ∧ (2 = 2 ∧ a13 = a14 ∧ a15 = a16 ∧ True) ∧ True
abbrev QYw9D_20 (a0 : Int) (a1 : Int) (a2 : Int) (a3 : Int) (a4 : Option Addr) (a5 : Nat) (a6 : Nat) : Prop := True ∧ True ∧ True ∧ (True ∧ True) ∧ (W_G_inner_5 a0 a1 a2 a3 a4 a5
 a6 = W_G_inner_5 a0 a1 a2 a3 a4 a5 a6 ∧ True) ∧ True ∧ True ∧ True ∧ True ∧ True ∧ (True ∧ True) ∧ True ∧ True ∧ True ∧ True
abbrev QYw9D_21 (a0 : RuA) : Prop := Z1 a0.19.1 ∧ Z1 a0.19.2 ∧ Z1 a0.19.3 ∧ Z1 a0.19.4 ∧ Z1 a0.19.5 ∧ Z1 a0.19.6 ∧ Z1 a0.19.7 ∧ Z1 a0.19.8 ∧ True
abbrev QYw9D_22 : Prop := True ∧ True ∧ True ∧ True ∧ True ∧ True ∧ True ∧ True ∧ True ∧ True
abbrev QYw9D_58 (a0 : MnB) (a1 : Nat) : Prop := ((0 : Int) ≤ a0.2 ∧ a0.2 ≤ (↑a1 : Int)) ∧ QYw9D_28 a0.1.1 ∧ QYw9D_28 a0.1.2 ∧ QYw9D_28 a0.1.3
abbrev QYw9D_23 (a0 : MnB) (a1 : InA) : Prop := ∀ (b0 : Int), b0 = IntKind.wrap .i64 (a0.2 + (1 : Int)) → ∃ (b1 : MnB), QYw9D_58 b1 a1.9 ∧ QYw9D_45 a1.9 b1.2 a0.2 ∧ (0 = 0 ∧ (2 :
 Int) = 2 ∧ QYw9D_31 a1.8 a1.9 a1.10 b1.2 b0) ∧ ((True ∧ (0 = 0 ∧ 3 = 3 ∧ 3 = 3) ∧ True) ∧ (3 = 3 ∧ QYw9D_37 b1.1.1.2 a0.1.1.2 b1.1.2.2 a0.1.2.2 b1.1.3.2 a0.1.3.2) ∧ QYw9D_41 b1.1.1
 a0.1.1 ∧ QYw9D_41 b1.1.2 a0.1.2 ∧ QYw9D_41 b1.1.3 a0.1.3 ∧ QYw9D_5 b1.1.1.1 a0.1.1.1 ∧ QYw9D_9 ∧ QYw9D_1 b1.1.1.1 a0.1.1.1 ∧ QYw9D_10 ∧ QYw9D_11 b1.1.1.1.11 a0.1.1.1.11 ∧ QYw9D_11
 b1.1.1.1.12 a0.1.1.1.12 ∧ QYw9D_11 b1.1.1.1.13 a0.1.1.1.13 ∧ QYw9D_11 b1.1.1.1.14 a0.1.1.1.14 ∧ QYw9D_11 b1.1.1.1.15 a0.1.1.1.15 ∧ QYw9D_11 b1.1.1.1.16 a0.1.1.1.16 ∧ QYw9D_11
 b1.1.1.1.17 a0.1.1.1.17 ∧ QYw9D_11 b1.1.1.1.18 a0.1.1.1.18 ∧ QYw9D_11 b1.1.1.2.1 a0.1.1.2.1 ∧ QYw9D_11 b1.1.1.2.2 a0.1.1.2.2 ∧ QYw9D_11 b1.1.1.2.3 a0.1.1.2.3 ∧ QYw9D_2 b1.1.2.1
 a0.1.2.1 b1.1.2.2 a0.1.2.2 b1.1.3.1 a0.1.3.1 b1.1.3.2 a0.1.3.2 b1.1.3.3 a0.1.3.3 b1.1.3.4 a0.1.3.4 b1.1.2.3 a0.1.2.3 b1.1.2.4 a0.1.2.4) ∧ True
abbrev QYw9D_59 (a0 : Int) (a1 : Int) (a2 : Int) (a3 : Int) (a4 : Option Addr) (a5 : Nat) (a6 : Nat) : Prop := 0 = 0 ∧ (a0 = a0 ∧ a1 = a1 ∧ a2 = a2 ∧ a3 = a3 ∧ Value.slice a4 a5 a6
 = Value.slice a4 a5 a6 ∧ True) ∧ True
abbrev QYw9D_75 (a0 : PoA) : Prop := 0 = 0 ∧ Z2 ∧ Z2 ∧ Z2 ∧ Z1 a0.4 ∧ Z1 a0.5 ∧ Z1 a0.6 ∧ Z1 a0.7 ∧ Z1 a0.8 ∧ Z2 ∧ True
abbrev QYw9D_24 (a0 : Int) (a1 : Int) (a2 : Int) (a3 : Int) (a4 : Option Addr) (a5 : Nat) (a6 : Nat) (a7 : GvA) : Prop := QYw9D_59 a0 a1 a2 a3 a4 a5 a6 ∧ (True ∧ (0 = 0 ∧ 1 = 1 ∧ 1
 = 1) ∧ True) ∧ (1 = 1 ∧ QYw9D_75 a7.2) ∧ (2 = 2 ∧ Z1 a7.3 ∧ Z1 a7.4 ∧ True) ∧ QYw9D_3 a7
abbrev QYw9D_25 (a0 : GvA) (a1 : Int) (a2 : Int) (a3 : Int) (a4 : Int) (a5 : Option Addr) (a6 : Nat) (a7 : Nat) : Prop := doN 1 (DoA.mk (StA.mk (OuA.mk (0 : Int) (0 : Int) (0 :
 Int) (0 : Int) (0 : Int) (0 : Int) (0 : Int)) (OuA.mk (0 : Int) (0 : Int) (0 : Int) (0 : Int) (0 : Int) (0 : Int) (0 : Int)) (OuA.mk (0 : Int) (0 : Int) (0 : Int) (0 : Int) (0 :
 Int) (0 : Int) (0 : Int)) a0.1 a0.2 a0.3 a0.4) a1 a2 a3 a4 a5 a6 a7)
abbrev QYw9D_26 (a0 : PoA) (a1 : PoA) : Prop := 0 = 0 ∧ Z2 ∧ Z2 ∧ Z2 ∧ Z1 a0.4 ∧ Z1 a0.5 ∧ Z1 a0.6 ∧ Z1 a0.7 ∧ Z1 a0.8 ∧ Z2 ∧ QYw9D_75 a1
abbrev QYw9D_55 (a0 : PoA) : Prop := (QYw9D_13 a0 ∧ QYw9D_13 a0 ∧ True) ∧ ZF a0.1 ∧ ZF a0.2 ∧ ZF a0.3 ∧ ZF a0.1 ∧ ZF a0.2 ∧ ZF a0.3 ∧ True
abbrev QYw9D_52 (a0 : RuA) : Prop := ¬(QYw9D_21 a0) → ∃ (_ : Unit), True ∧ true = false ∧ True
abbrev QYw9D_29 (a0 : GvA) (a1 : XyB) : Prop := QYw9D_15 a0.2 ∧ QYw9D_55 a0.2 ∧ (∀ (_ : Unit), True → (True ∧ a1.1 = a0.3 ∧ a1.2 = a0.4) ∧ ((Z2 ∧ Z2 ∧ True) ∧ (True ∧ Z1 a1.1 ∧ Z1
 a1.2 ∧ True) ∧ (True ∧ Z1 a0.3 ∧ Z1 a0.4 ∧ True) ∧ True) ∧ (∀ (_ : Unit), True → (QYw9D_21 a0.1 → (∃ (_ : Unit), True ∧ true = true ∧ True)) ∧ QYw9D_52 a0.1) ∧ True) ∧ True
abbrev QYw9D_30 (a0 : PoA) : Prop := (QYw9D_13 a0 ∧ True) ∧ ZF a0.1 ∧ ZF a0.2 ∧ ZF a0.3 ∧ True
abbrev QYw9D_69 (a0 : PoA) (a1 : PoA) (a2 : PoA) : Prop := 0 = 0 ∧ Z2 ∧ Z2 ∧ Z2 ∧ Z1 a0.4 ∧ Z1 a0.5 ∧ Z1 a0.6 ∧ Z1 a0.7 ∧ Z1 a0.8 ∧ Z2 ∧ QYw9D_26 a1 a2
abbrev QYw9D_76 (a0 : GvA) : Prop := (True ∧ True) ∧ (True ∧ True) ∧ (True ∧ True) ∧ (True ∧ True) ∧ (True ∧ True) ∧ (True ∧ True) ∧ (True ∧ True) ∧ (True ∧ True) ∧ QYw9D_3 a0
abbrev QYw9D_32 (a0 : Int) (a1 : Int) (a2 : Int) (a3 : Int) (a4 : Option Addr) (a5 : Nat) (a6 : Nat) (a7 : PyA) : Prop := QYw9D_59 a0 a1 a2 a3 a4 a5 a6 ∧ (True ∧ (0 = 0 ∧ 4 = 4 ∧ 4
 = 4) ∧ True) ∧ (4 = 4 ∧ 0 = 0 ∧ Z2 ∧ Z2 ∧ Z2 ∧ Z1 a7.1.2.4 ∧ Z1 a7.1.2.5 ∧ Z1 a7.1.2.6 ∧ Z1 a7.1.2.7 ∧ Z1 a7.1.2.8 ∧ Z2 ∧ QYw9D_69 a7.2.2 a7.3.2 a7.4.2) ∧ (2 = 2 ∧ Z1 a7.1.3 ∧ Z1
 a7.1.4 ∧ True) ∧ (2 = 2 ∧ Z1 a7.2.3 ∧ Z1 a7.2.4 ∧ True) ∧ (2 = 2 ∧ Z1 a7.3.3 ∧ Z1 a7.3.4 ∧ True) ∧ (2 = 2 ∧ Z1 a7.4.3 ∧ Z1 a7.4.4 ∧ True) ∧ (True ∧ True) ∧ (True ∧ True) ∧ (True ∧
 True) ∧ (True ∧ True) ∧ QYw9D_76 a7.4
abbrev QYw9D_72 (a0 : MnB) (a1 : Nat) : Prop := ((0 : Int) ≤ a0.2 ∧ a0.2 ≤ (↑a1 : Int)) ∧ QYw9D_28 a0.1.1 ∧ QYw9D_28 a0.1.2
abbrev QYw9D_34 (a0 : MnB) (a1 : InA) : Prop := ∀ (b0 : Int), b0 = IntKind.wrap .i64 (a0.2 + (1 : Int)) → ∃ (b1 : MnB), QYw9D_72 b1 a1.9 ∧ QYw9D_45 a1.9 b1.2 a0.2 ∧ (0 = 0 ∧ (1 :
 Int) = 1 ∧ QYw9D_31 a1.8 a1.9 a1.10 b1.2 b0) ∧ ((True ∧ Z2 ∧ True) ∧ (2 = 2 ∧ QYw9D_18 b1.1.1.2 a0.1.1.2 b1.1.2.2 a0.1.2.2) ∧ QYw9D_41 b1.1.1 a0.1.1 ∧ QYw9D_41 b1.1.2 a0.1.2 ∧
 QYw9D_2 b1.1.1.1 a0.1.1.1 b1.1.1.2 a0.1.1.2 b1.1.2.1 a0.1.2.1 b1.1.2.2 a0.1.2.2 b1.1.2.3 a0.1.2.3 b1.1.2.4 a0.1.2.4 b1.1.1.3 a0.1.1.3 b1.1.1.4 a0.1.1.4) ∧ True
abbrev QYw9D_35 (a0 : Option AO) (a1 : Option AO) (a2 : Option AO) : Prop := (True ∧ True ∧ True) ∧ (True ∧ True ∧ True) ∧ (True ∧ True ∧ True) ∧ (a0 = a0 ∧ a1 = a1 ∧ True) ∧ True
 ∧ True ∧ True ∧ True ∧ True ∧ (True ∧ True) ∧ (True ∧ True) ∧ (True ∧ True) ∧ (a2 = a2 ∧ True) ∧ True ∧ True ∧ True ∧ True
abbrev QYw9D_36 (a0 : GvA) (a1 : Int) (a2 : Int) (a3 : Int) (a4 : PoA) : Prop := ∃ (b0 b1 b2 : Nat), isG a0.1 a0.2 b0 b1 ∧ actG b0 b1 a1 a2 a3 = (↑b2 : Int) ∧ isG a0.1 a4 b0 b2
abbrev QYw9D_57 : Prop := True ∧ Int.ofNat 0 = (0 : Int) ∧ Int.ofNat 0 = (0 : Int) ∧ True
abbrev QYw9D_39 (a0 : PoA) (a1 : RuA) : Prop := (0 = 0 ∧ QYw9D_13 a0 ∧ Z2 ∧ True) ∧ QYw9D_27 a1 ∧ QYw9D_9 ∧ QYw9D_19 a1 ∧ QYw9D_10 ∧ ZF a1.11 ∧ ZF a1.12 ∧ ZF a1.13 ∧ ZF a1.14 ∧ ZF
 a1.15 ∧ ZF a1.16 ∧ ZF a1.17 ∧ ZF a1.18 ∧ ZF a0.1 ∧ ZF a0.2 ∧ ZF a0.3 ∧ QYw9D_57 ∧ True
abbrev QYw9D_40 (a0 : Int) (a1 : Int) (a2 : GvA) (a3 : Int) (a4 : Int) : Prop := a0 ≠ (0 : Int) ∧ (a1 % (5 : Int) ≤ (2 : Int) → (0 : Int) < a0 ∧ ∃ (b0 b1 : Nat), isG a2.1 a2.2 b0
 b1 ∧ actG b0 b1 a1 a3 a4 = -a0)
abbrev QYw9D_42 (a0 : Int) (a1 : Int) (a2 : Int) (a3 : Int) (a4 : Option Addr) (a5 : Nat) (a6 : Nat) (a7 : PyA) : Prop := QYw9D_59 a0 a1 a2 a3 a4 a5 a6 ∧ (True ∧ (0 = 0 ∧ 3 = 3 ∧ 3
 = 3) ∧ True) ∧ (3 = 3 ∧ QYw9D_69 a7.1.2 a7.2.2 a7.3.2) ∧ (2 = 2 ∧ Z1 a7.1.3 ∧ Z1 a7.1.4 ∧ True) ∧ (2 = 2 ∧ Z1 a7.2.3 ∧ Z1 a7.2.4 ∧ True) ∧ (2 = 2 ∧ Z1 a7.3.3 ∧ Z1 a7.3.4 ∧ True) ∧
 QYw9D_76 a7.3
abbrev QYw9D_43 (a0 : RuA) (a1 : RuA) (a2 : PoA) (a3 : PoA) (a4 : RuA) (a5 : RuA) (a6 : PoA) (a7 : PoA) (a8 : RuA) (a9 : RuA) (a10 : PoA) (a11 : PoA) : Prop := QYw9D_5 a0 a1 ∧
 QYw9D_9 ∧ QYw9D_1 a0 a1 ∧ QYw9D_10 ∧ QYw9D_11 a0.11 a1.11 ∧ QYw9D_11 a0.12 a1.12 ∧ QYw9D_11 a0.13 a1.13 ∧ QYw9D_11 a0.14 a1.14 ∧ QYw9D_11 a0.15 a1.15 ∧ QYw9D_11 a0.16 a1.16 ∧
 QYw9D_11 a0.17 a1.17 ∧ QYw9D_11 a0.18 a1.18 ∧ QYw9D_11 a2.1 a3.1 ∧ QYw9D_11 a2.2 a3.2 ∧ QYw9D_11 a2.3 a3.3 ∧ QYw9D_7 a4 a5 a6 a7 a8 a9 a10 a11
abbrev QYw9D_44 (a0 : PoA) (a1 : PoA) : Prop := (QYw9D_13 a0 ∧ (Z2 ∧ Z2 ∧ Z2 ∧ a0.4 = a1.4 ∧ a0.5 = a1.5 ∧ a0.6 = a1.6 ∧ a0.7 = a1.7 ∧ a0.8 = a1.8 ∧ True) ∧ True) ∧ ZF a0.1 ∧ ZF
 a0.2 ∧ ZF a0.3 ∧ QYw9D_11 a0.1 a1.1 ∧ QYw9D_11 a0.2 a1.2 ∧ QYw9D_11 a0.3 a1.3 ∧ True
abbrev QYw9D_46 (a0 : RuA) (a1 : PoA) (a2 : Int) : Prop := ∃ (b0 b1 : Nat), isG a0 a1 b0 b1 ∧ a2 = turnG b0 b1
abbrev QYw9D_47 : Prop := (∀ (_ : Unit), True → ∃ (_ : Unit), True ∧ true = true ∧ True) ∧ True
abbrev QYw9D_48 (a0 : PoA) (a1 : RuA) : Prop := (0 = 0 ∧ QYw9D_13 a0 ∧ True) ∧ QYw9D_4 a1 a0
abbrev QYw9D_49 (a0 : Int) (a1 : Int) (a2 : Int) : Prop := ((0 : Int) ≤ a0 ∧ a0 < (256 : Int)) ∧ ((-2147483648 : Int) ≤ a1 ∧ a1 ≤ (2147483647 : Int)) ∧ (0 : Int) ≤ a2 ∧ a2 < (256 :
 Int)
abbrev QYw9D_50 (a0 : Option AO) (a1 : Option AO) : Prop := True ∧ True ∧ True ∧ (True ∧ True) ∧ (a0 = a0 ∧ True) ∧ (True ∧ True) ∧ (a1 = a1 ∧ True) ∧ True ∧ True ∧ True ∧ True
abbrev QYw9D_53 (a0 : RuA) (a1 : PoA) (a2 : RuA) (a3 : PoA) : Prop := QYw9D_27 a0 ∧ QYw9D_9 ∧ QYw9D_19 a0 ∧ QYw9D_10 ∧ ZF a0.11 ∧ ZF a0.12 ∧ ZF a0.13 ∧ ZF a0.14 ∧ ZF a0.15 ∧ ZF
 a0.16 ∧ ZF a0.17 ∧ ZF a0.18 ∧ ZF a1.1 ∧ ZF a1.2 ∧ ZF a1.3 ∧ QYw9D_4 a2 a3
abbrev QYw9D_56 (a0 : GvA) (a1 : Int) (a2 : Int) : Prop := 2 = 2 ∧ a0.3 = a1 ∧ a0.4 = a2 ∧ True
abbrev QYw9D_60 (a0 : Int) (a1 : Int) (a2 : GvA) (a3 : Int) (a4 : Int) : Prop := a0 ≠ 0 ∧ (a1 % (5 : Int) ≤ (2 : Int) → 0 < a0 ∧ ∃ (b0 b1 : Nat), isG a2.1 a2.2 b0 b1 ∧ actG b0 b1
 a1 a3 a4 = -a0)
abbrev QYw9D_61 (a0 : InA) (a1 : Int) (a2 : Int) : Prop := Value.slice a0.8 a0.9 a0.10 = Value.slice a0.8 a0.9 a0.10 ∧ 0 = 0 ∧ QYw9D_31 a0.5 a0.6 a0.7 a1 a2
abbrev QYw9D_62 (a0 : Nat) (a1 : Nat) (a2 : Int) : Prop := FX Proofs.Tryz.prog a0 (Nat.add a1 1) (Value.int .i64 a2)
abbrev QYw9D_63 (a0 : Nat) (a1 : Nat) (a2 : Int) : Prop := FX Proofs.Tryz.prog a0 (Nat.add a1 2) (Value.int .i32 a2)
abbrev QYw9D_64 (a0 : PyA) : Prop := (True ∧ Z2 ∧ True) ∧ (2 = 2 ∧ QYw9D_26 a0.1.2 a0.2.2) ∧ (2 = 2 ∧ Z1 a0.1.3 ∧ Z1 a0.1.4 ∧ True) ∧ (2 = 2 ∧ Z1 a0.2.3 ∧ Z1 a0.2.4 ∧ True) ∧ (True
 ∧ True) ∧ (True ∧ True) ∧ (True ∧ True) ∧ (True ∧ True) ∧ QYw9D_3 a0.2
abbrev QYw9D_65 (a0 : Nat) (a1 : Nat) (a2 : Int) : Prop := FX Proofs.Tryz.prog a0 (Nat.add a1 0) (Value.int .u8 a2)
abbrev QYw9D_66 (a0 : Nat) (a1 : Nat) (a2 : Int) : Prop := FX Proofs.Tryz.prog a0 (Nat.add a1 3) (Value.int .u8 a2)
abbrev QYw9D_67 (a0 : Int) (a1 : Int) (a2 : Int) (a3 : Int) (a4 : Option Addr) (a5 : Nat) (a6 : Nat) : Prop := (True ∧ True ∧ True ∧ (True ∧ True) ∧ (W_G_inner_5 a0 a1 a2 a3 a4 a5
 a6 = W_G_inner_5 a0 a1 a2 a3 a4 a5 a6 ∧ True) ∧ QYw9D_22) ∧ ∃ (_ : Unit), True ∧ true = false ∧ True
abbrev QYw9D_70 : Prop := smQ (Int.ofNat 0) ∧ smQ (Int.ofNat 0)
abbrev QYw9D_71 (a0 : InA) (a1 : Int) (a2 : Int) : Prop := 0 = 0 ∧ 0 = 0 ∧ Value.slice a0.8 a0.9 a0.10 = Value.slice a0.8 a0.9 a0.10 ∧ (↑a0.9 : Int) = a1 ∧ a2 = (0 : Int) ∧ True
abbrev QYw9D_73 (a0 : GvA) : Prop := True ∧ ∃ (b0 b1 : Nat), isG a0.1 a0.2 b0 b1
abbrev QYw9D_74 (a0 : Nat) (a1 : Nat) (a2 : Option Addr) (a3 : Nat) (a4 : Nat) : Prop := FX Proofs.Tryz.prog a0 (Nat.add a1 4) (Value.slice a2 a3 a4)
abbrev QYw9D_77 (a0 : InA) (a1 : BkB) : Prop := monJ 1 (MnA.mk a0.1 a0.3 a0.4 a0.5 a0.6 a0.7) (MnB.mk a1.1 a1.2) ∧ stQ a1.3 a1.4
abbrev QYw9D_78 (a0 : Int) (a1 : Int) (a2 : Int) (a3 : Int) (a4 : Option Addr) (a5 : Nat) (a6 : Nat) : Prop := QYw9D_20 a0 a1 a2 a3 a4 a5 a6 ∧ ∃ (_ : Unit), True ∧ true = false ∧
 True
abbrev QYw9D_79 (a0 : RuA) (a1 : PoA) (a2 : RuA) (a3 : PoA) (a4 : Int) (a5 : Int) : Prop := True ∧ ((isGx a0 a1 ∧ isGx a2 a3) ∧ (smQ a4 ∧ smQ a5) ∧ QYw9D_70) ∧ Int.ofNat 0 = (0 :
 Int) ∧ Int.ofNat 0 = (0 : Int)
def TA1 (u0 : Int) (u1 : InA) (u2 : PoA) (u3 : Int) (u4 : Int) (u5 : RuA) (u6 : RuA) (u7 : PoA) : Prop := ∀ (b0 : Int), b0 = IntKind.wrap .i64 (u0 + (1 : Int)) → ∃ (b1 : BkB), QYw9D_77 u1 b1 ∧ QYw9D_45 u1.6 b1.2 u0 ∧ QYw9D_61 u1 b1.2 b0 ∧ ((True ∧ (0 = 0 ∧ 1 = 1 ∧ 1 = 1) ∧ True) ∧ (1 =
 1 ∧ 0 = 0 ∧ QYw9D_33 b1.1.1.2 u2) ∧ QYw9D_56 b1.1.1 u3 u4 ∧ QYw9D_7 b1.1.1.1 u5 b1.1.1.2 u2 b1.3 u6 b1.4 u7) ∧ True
set_option maxHeartbeats 3200000 in
def TA2 (u0 : Int) (u1 : InA) (u2 : PoA) (u3 : PoA) (u4 : Int) (u5 : Int) (u6 : Int) (u7 : Int) (u8 : RuA) (u9 : RuA) (u10 : RuA) (u11 : PoA) : Prop := ∀ (b0 : Int), b0 = IntKind.wrap .i64 (u0 + (1 : Int)) → ∃ (b1 : BkB), (monJ 2 (MnA.mk u1.1 u1.3 u1.4 u1.5 u1.6 u1.7) (MnB.mk b1.1 b1.2) ∧ stQ b1.3 b1.4) ∧ QYw9D_45 u1.6 b1.2 u0 ∧
 QYw9D_61 u1 b1.2 b0 ∧ ((True ∧ Z2 ∧ True) ∧ (2 = 2 ∧ QYw9D_18 b1.1.1.2 u2 b1.1.2.2 u3) ∧ QYw9D_56 b1.1.1 u4 u5 ∧ QYw9D_56 b1.1.2 u6 u7 ∧ QYw9D_43 b1.1.1.1 u8 b1.1.1.2 u2 b1.1.2.1
 u9 b1.1.2.2 u3 b1.3 u10 b1.4 u11) ∧ True
set_option maxHeartbeats 3200000 in
def TA3 (u0 : Int) (u1 : InA) (u2 : PoA) (u3 : PoA) (u4 : PoA) (u5 : Int) (u6 : Int) (u7 : Int) (u8 : Int) (u9 : Int) (u10 : Int) (u11 : RuA) (u12 : RuA) (u13 : RuA) (u14 : RuA)
 (u15 : PoA) : Prop := ∀ (b0 : Int), b0 = IntKind.wrap .i64 (u0 + (1 : Int)) → ∃ (b1 : BkB), (monJ 3 (MnA.mk u1.1 u1.3 u1.4 u1.5 u1.6 u1.7) (MnB.mk b1.1 b1.2) ∧ stQ b1.3 b1.4) ∧ QYw9D_45 u1.6 b1.2 u0 ∧
 QYw9D_61 u1 b1.2 b0 ∧ ((True ∧ (0 = 0 ∧ 3 = 3 ∧ 3 = 3) ∧ True) ∧ (3 = 3 ∧ QYw9D_37 b1.1.1.2 u2 b1.1.2.2 u3 b1.1.3.2 u4) ∧ QYw9D_56 b1.1.1 u5 u6 ∧ QYw9D_56 b1.1.2 u7 u8 ∧ QYw9D_56
 b1.1.3 u9 u10 ∧ QYw9D_5 b1.1.1.1 u11 ∧ QYw9D_9 ∧ QYw9D_1 b1.1.1.1 u11 ∧ QYw9D_10 ∧ QYw9D_11 b1.1.1.1.11 u11.11 ∧ QYw9D_11 b1.1.1.1.12 u11.12 ∧ QYw9D_11 b1.1.1.1.13 u11.13 ∧
 QYw9D_11 b1.1.1.1.14 u11.14 ∧ QYw9D_11 b1.1.1.1.15 u11.15 ∧ QYw9D_11 b1.1.1.1.16 u11.16 ∧ QYw9D_11 b1.1.1.1.17 u11.17 ∧ QYw9D_11 b1.1.1.1.18 u11.18 ∧ QYw9D_11 b1.1.1.2.1 u2.1 ∧
 QYw9D_11 b1.1.1.2.2 u2.2 ∧ QYw9D_11 b1.1.1.2.3 u2.3 ∧ QYw9D_43 b1.1.2.1 u12 b1.1.2.2 u3 b1.1.3.1 u13 b1.1.3.2 u4 b1.3 u14 b1.4 u15) ∧ True
set_option maxHeartbeats 3200000 in
def TA4 (u0 : Int) (u1 : InA) (u2 : PoA) (u3 : PoA) (u4 : PoA) (u5 : PoA) (u6 : Int) (u7 : Int) (u8 : Int) (u9 : Int) (u10 : Int) (u11 : Int) (u12 : Int) (u13 : Int) (u14 : RuA)
 (u15 : RuA) (u16 : RuA) (u17 : RuA) (u18 : RuA) (u19 : PoA) : Prop := ∀ (b0 : Int), b0 = IntKind.wrap .i64 (u0 + (1 : Int)) → ∃ (b1 : BkB), (monJ 4 (MnA.mk u1.1 u1.3 u1.4 u1.5 u1.6 u1.7) (MnB.mk b1.1 b1.2) ∧ stQ b1.3 b1.4) ∧ QYw9D_45 u1.6 b1.2 u0 ∧
 QYw9D_61 u1 b1.2 b0 ∧ ((True ∧ (0 = 0 ∧ 4 = 4 ∧ 4 = 4) ∧ True) ∧ QYw9D_68 b1.1.1.2 u2 b1.1.2.2 u3 b1.1.3.2 u4 b1.1.4.2 u5 ∧ QYw9D_56 b1.1.1 u6 u7 ∧ QYw9D_56 b1.1.2 u8 u9 ∧ QYw9D_56
 b1.1.3 u10 u11 ∧ QYw9D_56 b1.1.4 u12 u13 ∧ QYw9D_5 b1.1.1.1 u14 ∧ QYw9D_9 ∧ QYw9D_1 b1.1.1.1 u14 ∧ QYw9D_10 ∧ QYw9D_11 b1.1.1.1.11 u14.11 ∧ QYw9D_11 b1.1.1.1.12 u14.12 ∧ QYw9D_11
 b1.1.1.1.13 u14.13 ∧ QYw9D_11 b1.1.1.1.14 u14.14 ∧ QYw9D_11 b1.1.1.1.15 u14.15 ∧ QYw9D_11 b1.1.1.1.16 u14.16 ∧ QYw9D_11 b1.1.1.1.17 u14.17 ∧ QYw9D_11 b1.1.1.1.18 u14.18 ∧ QYw9D_11
 b1.1.1.2.1 u2.1 ∧ QYw9D_11 b1.1.1.2.2 u2.2 ∧ QYw9D_11 b1.1.1.2.3 u2.3 ∧ QYw9D_5 b1.1.2.1 u15 ∧ QYw9D_9 ∧ QYw9D_1 b1.1.2.1 u15 ∧ QYw9D_10 ∧ QYw9D_11 b1.1.2.1.11 u15.11 ∧ QYw9D_11
 b1.1.2.1.12 u15.12 ∧ QYw9D_11 b1.1.2.1.13 u15.13 ∧ QYw9D_11 b1.1.2.1.14 u15.14 ∧ QYw9D_11 b1.1.2.1.15 u15.15 ∧ QYw9D_11 b1.1.2.1.16 u15.16 ∧ QYw9D_11 b1.1.2.1.17 u15.17 ∧ QYw9D_11
 b1.1.2.1.18 u15.18 ∧ QYw9D_11 b1.1.2.2.1 u3.1 ∧ QYw9D_11 b1.1.2.2.2 u3.2 ∧ QYw9D_11 b1.1.2.2.3 u3.3 ∧ QYw9D_43 b1.1.3.1 u16 b1.1.3.2 u4 b1.1.4.1 u17 b1.1.4.2 u5 b1.3 u18 b1.4 u19)
 ∧ True
set_option maxHeartbeats 3200000 in
def LB2 (u0 : InA) : Prop := ∀ (b0 : MnB), QYw9D_72 b0 u0.9 → (b0.2 < (↑u0.9 : Int) → ((0 : Int) ≤ b0.2 ∧ b0.2 < (↑u0.9 : Int)) ∧ (∃ (b1 b2 : Nat), W_G_inner_2 u0 = W_G_inner_1 b1 b2 ∧ ∀ (b3 : Nat), b3 = b2 +
 Int.toNat b0.2 * 5 → ∃ (b4 : Int), QYw9D_65 b1 b3 b4 ∧ ∃ (b5 : Int), QYw9D_62 b1 b3 b5 ∧ ∃ (b6 : Int), QYw9D_63 b1 b3 b6 ∧ ∃ (b7 : Int), QYw9D_66 b1 b3 b7 ∧ ∃ (b8 : Option Addr)
 (b9 b10 : Nat), QYw9D_74 b1 b3 b8 b9 b10 ∧ (5 : Int) ≠ (0 : Int) ∧ ∀ (b11 : Int), b11 = Int.tmod b4 (5 : Int) → ((2 : Int) < b11 → QYw9D_34 b0 u0) ∧ (¬((2 : Int) < b11) → (True ∧
 doP 2 (DoA.mk (StA.mk (OuA.mk b0.1.1.2.4 b0.1.1.2.5 b0.1.1.2.6 b0.1.1.2.7 b0.1.1.2.8 b0.1.1.3 b0.1.1.4) (OuA.mk (0 : Int) (0 : Int) (0 : Int) (0 : Int) (0 : Int) (0 : Int) (0 :
 Int)) (OuA.mk (0 : Int) (0 : Int) (0 : Int) (0 : Int) (0 : Int) (0 : Int) (0 : Int)) b0.1.2.1 b0.1.2.2 b0.1.2.3 b0.1.2.4) b4 b5 b6 b7 b8 b9 b10) ∧ b4 % (5 : Int) ≤ (2 : Int)) ∧
 (QYw9D_59 b4 b5 b6 b7 b8 b9 b10 ∧ QYw9D_64 b0.1) ∧ (∀ (b12 : MvB), QYw9D_36 b0.1.2 b4 b5 b6 b12.1 → (True ∧ QYw9D_25 b0.1.2 b4 b5 b6 b7 b8 b9 b10 ∧ (∃ (b13 b14 b15 : Nat), isG
 b0.1.2.1 b0.1.2.2 b13 b14 ∧ actG b13 b14 b4 b5 b6 = (↑b15 : Int))) ∧ QYw9D_24 b4 b5 b6 b7 b8 b9 b10 b0.1.2 ∧ (∀ (b13 : MvB), QYw9D_36 b0.1.2 b4 b5 b6 b13.1 → (True ∧ True ∧ True ∧
 QYw9D_22) ∧ (True ∧ (∃ (b14 b15 : Nat), isG b0.1.2.1 b12.1 b14 b15)) ∧ QYw9D_48 b12.1 b0.1.2.1 ∧ (∀ (b14 : TnB), QYw9D_46 b0.1.2.1 b12.1 b14.1 → (True ∧ QYw9D_22) ∧ (True ∧ True ∧
 True ∧ QYw9D_22) ∧ (True ∧ (∃ (b15 b16 : Nat), isG b0.1.2.1 b13.1 b15 b16)) ∧ QYw9D_48 b13.1 b0.1.2.1 ∧ (∀ (b15 : TnB), QYw9D_46 b0.1.2.1 b13.1 b15.1 → (True ∧ QYw9D_22) ∧ (b14.1 ≠
 b15.1 → QYw9D_78 b4 b5 b6 b7 b8 b9 b10) ∧ (¬(b14.1 ≠ b15.1) → QYw9D_20 b4 b5 b6 b7 b8 b9 b10 ∧ QYw9D_15 b12.1 ∧ QYw9D_30 b12.1 ∧ (∀ (_ : Unit), True → QYw9D_6 b0.1.2.3 b0.1.2.4 ∧
 QYw9D_8 b0.1.2.3 b0.1.2.4 ∧ (∀ (b17 : XyB), QYw9D_12 b0.1.2.3 b0.1.2.4 b17.1 b17.2 → ((True ∧ True ∧ True) ∧ (True ∧ True ∧ True) ∧ (True ∧ True ∧ True) ∧ (W_G_inner_6 b0 b12 =
 W_G_inner_6 b0 b12 ∧ W_G_inner_6 b0 b12 = W_G_inner_6 b0 b12 ∧ True) ∧ True ∧ True ∧ True ∧ True ∧ True ∧ (True ∧ True) ∧ (True ∧ True) ∧ (True ∧ True) ∧ (W_G_inner_6 b0 b12 =
 W_G_inner_6 b0 b12 ∧ True) ∧ True ∧ True ∧ True ∧ True) ∧ (True ∧ True ∧ True ∧ (True ∧ True) ∧ (W_G_inner_7 b12 = W_G_inner_7 b12 ∧ True) ∧ (True ∧ True) ∧ (W_G_inner_7 b12 =
 W_G_inner_7 b12 ∧ True) ∧ True ∧ True ∧ True ∧ True) ∧ QYw9D_15 b13.1 ∧ QYw9D_30 b13.1 ∧ (∀ (_ : Unit), True → QYw9D_6 b0.1.2.3 b0.1.2.4 ∧ QYw9D_8 b0.1.2.3 b0.1.2.4 ∧ (∀ (b19 :
 XyB), QYw9D_12 b0.1.2.3 b0.1.2.4 b19.1 b19.2 → ((True ∧ True ∧ True) ∧ (True ∧ True ∧ True) ∧ (True ∧ True ∧ True) ∧ (W_G_inner_8 b13 = W_G_inner_8 b13 ∧ W_G_inner_8 b13 =
 W_G_inner_8 b13 ∧ True) ∧ True ∧ True ∧ True ∧ True ∧ True ∧ (True ∧ True) ∧ (True ∧ True) ∧ (True ∧ True) ∧ (W_G_inner_8 b13 = W_G_inner_8 b13 ∧ True) ∧ True ∧ True ∧ True ∧ True)
 ∧ (True ∧ True ∧ True ∧ (True ∧ True) ∧ (W_G_inner_9 b13 = W_G_inner_9 b13 ∧ True) ∧ (True ∧ True) ∧ (W_G_inner_9 b13 = W_G_inner_9 b13 ∧ True) ∧ True ∧ True ∧ True ∧ True) ∧
 QYw9D_15 b12.1 ∧ QYw9D_44 b12.1 b13.1 ∧ (∀ (_ : Unit), True → QYw9D_52 b0.1.2.1 ∧ (QYw9D_21 b0.1.2.1 → ∀ (b21 : Int), b21 = IntKind.wrap .i64 (b0.2 + (1 : Int)) → ∃ (b22 : MnB),
 QYw9D_72 b22 u0.9 ∧ QYw9D_45 u0.9 b22.2 b0.2 ∧ (0 = 0 ∧ (1 : Int) = 1 ∧ QYw9D_31 u0.8 u0.9 u0.10 b22.2 b21) ∧ ((True ∧ Z2 ∧ True) ∧ (2 = 2 ∧ QYw9D_18 b22.1.1.2 b0.1.1.2 b22.1.2.2
 b12.1) ∧ QYw9D_41 b22.1.1 b0.1.1 ∧ QYw9D_41 b22.1.2 b0.1.2 ∧ QYw9D_17 b22.1.1.1 b0.1.1.1 b22.1.1.2 b0.1.1.2 b22.1.2.1 b0.1.2.1 b22.1.2.2 b12.1 b13.1 b22.1.2.3 b0.1.2.3 b22.1.2.4
 b0.1.2.4 b22.1.1.3 b0.1.1.3 b22.1.1.4 b0.1.1.4) ∧ True)) ∧ True) ∧ True) ∧ True) ∧ True) ∧ True)) ∧ True) ∧ True) ∧ True) ∧ (∀ (b12 : TnB), QYw9D_40 b12.1 b4 b0.1.2 b5 b6 → (True ∧
 QYw9D_25 b0.1.2 b4 b5 b6 b7 b8 b9 b10 ∧ (∃ (b13 b14 : Nat), isG b0.1.2.1 b0.1.2.2 b13 b14 ∧ actG b13 b14 b4 b5 b6 < (0 : Int))) ∧ QYw9D_24 b4 b5 b6 b7 b8 b9 b10 b0.1.2 ∧ (∀ (b13 :
 TnB), QYw9D_40 b13.1 b4 b0.1.2 b5 b6 → (b12.1 ≠ b13.1 → QYw9D_67 b4 b5 b6 b7 b8 b9 b10) ∧ (¬(b12.1 ≠ b13.1) → (True ∧ True ∧ True ∧ QYw9D_22) ∧ QYw9D_73 b0.1.2 ∧ QYw9D_48 b0.1.2.2
 b0.1.2.1 ∧ (∀ (b14 : TnB), QYw9D_46 b0.1.2.1 b0.1.2.2 b14.1 → (True ∧ QYw9D_22) ∧ (True ∧ True ∧ True ∧ QYw9D_22) ∧ QYw9D_73 b0.1.2 ∧ QYw9D_48 b0.1.2.2 b0.1.2.1 ∧ (∀ (b15 : TnB),
 QYw9D_46 b0.1.2.1 b0.1.2.2 b15.1 → (True ∧ QYw9D_22) ∧ (b14.1 ≠ b15.1 → QYw9D_78 b4 b5 b6 b7 b8 b9 b10) ∧ (¬(b14.1 ≠ b15.1) → QYw9D_20 b4 b5 b6 b7 b8 b9 b10 ∧ QYw9D_15 b0.1.2.2 ∧
 QYw9D_30 b0.1.2.2 ∧ (∀ (_ : Unit), True → QYw9D_6 b0.1.2.3 b0.1.2.4 ∧ QYw9D_8 b0.1.2.3 b0.1.2.4 ∧ (∀ (b17 : XyB), QYw9D_12 b0.1.2.3 b0.1.2.4 b17.1 b17.2 → ((True ∧ True ∧ True) ∧
 (True ∧ True ∧ True) ∧ (True ∧ True ∧ True) ∧ (W_G_inner_10 b0 = W_G_inner_10 b0 ∧ W_G_inner_10 b0 = W_G_inner_10 b0 ∧ True) ∧ True ∧ True ∧ True ∧ True ∧ True ∧ (True ∧ True) ∧
 (True ∧ True) ∧ (True ∧ True) ∧ (W_G_inner_10 b0 = W_G_inner_10 b0 ∧ True) ∧ True ∧ True ∧ True ∧ True) ∧ (True ∧ True ∧ True ∧ (True ∧ True) ∧ (W_G_inner_11 b0 = W_G_inner_11 b0 ∧
 True) ∧ (True ∧ True) ∧ (W_G_inner_11 b0 = W_G_inner_11 b0 ∧ True) ∧ True ∧ True ∧ True ∧ True) ∧ QYw9D_15 b0.1.2.2 ∧ QYw9D_30 b0.1.2.2 ∧ (∀ (_ : Unit), True → QYw9D_6 b0.1.2.3
 b0.1.2.4 ∧ QYw9D_8 b0.1.2.3 b0.1.2.4 ∧ (∀ (b19 : XyB), QYw9D_12 b0.1.2.3 b0.1.2.4 b19.1 b19.2 → ((True ∧ True ∧ True) ∧ (True ∧ True ∧ True) ∧ (True ∧ True ∧ True) ∧ (W_G_inner_12
 b0 = W_G_inner_12 b0 ∧ W_G_inner_12 b0 = W_G_inner_12 b0 ∧ True) ∧ True ∧ True ∧ True ∧ True ∧ True ∧ (True ∧ True) ∧ (True ∧ True) ∧ (True ∧ True) ∧ (W_G_inner_12 b0 =
 W_G_inner_12 b0 ∧ True) ∧ True ∧ True ∧ True ∧ True) ∧ (True ∧ True ∧ True ∧ (True ∧ True) ∧ (W_G_inner_13 b0 = W_G_inner_13 b0 ∧ True) ∧ (True ∧ True) ∧ (W_G_inner_13 b0 =
 W_G_inner_13 b0 ∧ True) ∧ True ∧ True ∧ True ∧ True) ∧ QYw9D_15 b0.1.2.2 ∧ QYw9D_55 b0.1.2.2 ∧ (∀ (_ : Unit), True → QYw9D_52 b0.1.2.1 ∧ (QYw9D_21 b0.1.2.1 → QYw9D_34 b0 u0)) ∧
 True) ∧ True) ∧ True) ∧ True) ∧ True)) ∧ True) ∧ True)) ∧ True) ∧ True))) ∧ (¬(b0.2 < (↑u0.9 : Int)) → QYw9D_15 b0.1.1.2 ∧ QYw9D_30 b0.1.1.2 ∧ (∀ (_ : Unit), True → QYw9D_6
 b0.1.1.3 b0.1.1.4 ∧ QYw9D_8 b0.1.1.3 b0.1.1.4 ∧ (∀ (b2 : XyB), QYw9D_12 b0.1.1.3 b0.1.1.4 b2.1 b2.2 → ((True ∧ True ∧ True) ∧ (True ∧ True ∧ True) ∧ (True ∧ True ∧ True) ∧
 (W_G_inner_14 b0 = W_G_inner_14 b0 ∧ W_G_inner_14 b0 = W_G_inner_14 b0 ∧ True) ∧ True ∧ True ∧ True ∧ True ∧ True ∧ (True ∧ True) ∧ (True ∧ True) ∧ (True ∧ True) ∧ (W_G_inner_14 b0
 = W_G_inner_14 b0 ∧ True) ∧ True ∧ True ∧ True ∧ True) ∧ (True ∧ True ∧ True ∧ (True ∧ True) ∧ (W_G_inner_15 b0 = W_G_inner_15 b0 ∧ True) ∧ (True ∧ True) ∧ (W_G_inner_15 b0 =
 W_G_inner_15 b0 ∧ True) ∧ True ∧ True ∧ True ∧ True) ∧ QYw9D_29 b0.1.1 b2) ∧ True) ∧ True)
set_option maxHeartbeats 3200000 in
def LB3 (u0 : InA) : Prop := ∀ (b0 : MnB), QYw9D_58 b0 u0.9 → (b0.2 < (↑u0.9 : Int) → ((0 : Int) ≤ b0.2 ∧ b0.2 < (↑u0.9 : Int)) ∧ (∃ (b1 b2 : Nat), W_G_inner_2 u0 = W_G_inner_1 b1 b2 ∧ ∀ (b3 : Nat), b3 = b2 +
 Int.toNat b0.2 * 5 → ∃ (b4 : Int), QYw9D_65 b1 b3 b4 ∧ ∃ (b5 : Int), QYw9D_62 b1 b3 b5 ∧ ∃ (b6 : Int), QYw9D_63 b1 b3 b6 ∧ ∃ (b7 : Int), QYw9D_66 b1 b3 b7 ∧ ∃ (b8 : Option Addr)
 (b9 b10 : Nat), QYw9D_74 b1 b3 b8 b9 b10 ∧ (5 : Int) ≠ (0 : Int) ∧ ∀ (b11 : Int), b11 = Int.tmod b4 (5 : Int) → ((2 : Int) < b11 → QYw9D_23 b0 u0) ∧ (¬((2 : Int) < b11) → (True ∧
 doP 3 (DoA.mk (StA.mk (OuA.mk b0.1.1.2.4 b0.1.1.2.5 b0.1.1.2.6 b0.1.1.2.7 b0.1.1.2.8 b0.1.1.3 b0.1.1.4) (OuA.mk b0.1.2.2.4 b0.1.2.2.5 b0.1.2.2.6 b0.1.2.2.7 b0.1.2.2.8 b0.1.2.3
 b0.1.2.4) (OuA.mk (0 : Int) (0 : Int) (0 : Int) (0 : Int) (0 : Int) (0 : Int) (0 : Int)) b0.1.3.1 b0.1.3.2 b0.1.3.3 b0.1.3.4) b4 b5 b6 b7 b8 b9 b10) ∧ b4 % (5 : Int) ≤ (2 : Int)) ∧
 QYw9D_42 b4 b5 b6 b7 b8 b9 b10 b0.1 ∧ (∀ (b12 : MvB), QYw9D_36 b0.1.3 b4 b5 b6 b12.1 → (True ∧ QYw9D_25 b0.1.3 b4 b5 b6 b7 b8 b9 b10 ∧ (∃ (b13 b14 b15 : Nat), isG b0.1.3.1 b0.1.3.2
 b13 b14 ∧ actG b13 b14 b4 b5 b6 = (↑b15 : Int))) ∧ QYw9D_24 b4 b5 b6 b7 b8 b9 b10 b0.1.3 ∧ (∀ (b13 : MvB), QYw9D_36 b0.1.3 b4 b5 b6 b13.1 → (True ∧ True ∧ True ∧ QYw9D_22) ∧ (True
 ∧ (∃ (b14 b15 : Nat), isG b0.1.3.1 b12.1 b14 b15)) ∧ QYw9D_48 b12.1 b0.1.3.1 ∧ (∀ (b14 : TnB), QYw9D_46 b0.1.3.1 b12.1 b14.1 → (True ∧ QYw9D_22) ∧ (True ∧ True ∧ True ∧ QYw9D_22) ∧
 (True ∧ (∃ (b15 b16 : Nat), isG b0.1.3.1 b13.1 b15 b16)) ∧ QYw9D_48 b13.1 b0.1.3.1 ∧ (∀ (b15 : TnB), QYw9D_46 b0.1.3.1 b13.1 b15.1 → (True ∧ QYw9D_22) ∧ (b14.1 ≠ b15.1 → QYw9D_78
 b4 b5 b6 b7 b8 b9 b10) ∧ (¬(b14.1 ≠ b15.1) → QYw9D_20 b4 b5 b6 b7 b8 b9 b10 ∧ QYw9D_15 b12.1 ∧ QYw9D_30 b12.1 ∧ (∀ (_ : Unit), True → QYw9D_6 b0.1.3.3 b0.1.3.4 ∧ QYw9D_8 b0.1.3.3
 b0.1.3.4 ∧ (∀ (b17 : XyB), QYw9D_12 b0.1.3.3 b0.1.3.4 b17.1 b17.2 → ((True ∧ True ∧ True) ∧ (True ∧ True ∧ True) ∧ (True ∧ True ∧ True) ∧ (W_G_inner_18 b0 b12 = W_G_inner_18 b0 b12
 ∧ W_G_inner_18 b0 b12 = W_G_inner_18 b0 b12 ∧ True) ∧ True ∧ True ∧ True ∧ True ∧ True ∧ (True ∧ True) ∧ (True ∧ True) ∧ (True ∧ True) ∧ (W_G_inner_18 b0 b12 = W_G_inner_18 b0 b12
 ∧ True) ∧ True ∧ True ∧ True ∧ True) ∧ (True ∧ True ∧ True ∧ (True ∧ True) ∧ (W_G_inner_19 b12 = W_G_inner_19 b12 ∧ True) ∧ (True ∧ True) ∧ (W_G_inner_19 b12 = W_G_inner_19 b12 ∧
 True) ∧ True ∧ True ∧ True ∧ True) ∧ QYw9D_15 b13.1 ∧ QYw9D_30 b13.1 ∧ (∀ (_ : Unit), True → QYw9D_6 b0.1.3.3 b0.1.3.4 ∧ QYw9D_8 b0.1.3.3 b0.1.3.4 ∧ (∀ (b19 : XyB), QYw9D_12
 b0.1.3.3 b0.1.3.4 b19.1 b19.2 → ((True ∧ True ∧ True) ∧ (True ∧ True ∧ True) ∧ (True ∧ True ∧ True) ∧ (W_G_inner_20 b13 = W_G_inner_20 b13 ∧ W_G_inner_20 b13 = W_G_inner_20 b13 ∧
 True) ∧ True ∧ True ∧ True ∧ True ∧ True ∧ (True ∧ True) ∧ (True ∧ True) ∧ (True ∧ True) ∧ (W_G_inner_20 b13 = W_G_inner_20 b13 ∧ True) ∧ True ∧ True ∧ True ∧ True) ∧ (True ∧ True
 ∧ True ∧ (True ∧ True) ∧ (W_G_inner_21 b13 = W_G_inner_21 b13 ∧ True) ∧ (True ∧ True) ∧ (W_G_inner_21 b13 = W_G_inner_21 b13 ∧ True) ∧ True ∧ True ∧ True ∧ True) ∧ QYw9D_15 b12.1 ∧
 QYw9D_44 b12.1 b13.1 ∧ (∀ (_ : Unit), True → QYw9D_52 b0.1.3.1 ∧ (QYw9D_21 b0.1.3.1 → ∀ (b21 : Int), b21 = IntKind.wrap .i64 (b0.2 + (1 : Int)) → ∃ (b22 : MnB), QYw9D_58 b22 u0.9 ∧
 QYw9D_45 u0.9 b22.2 b0.2 ∧ (0 = 0 ∧ (2 : Int) = 2 ∧ QYw9D_31 u0.8 u0.9 u0.10 b22.2 b21) ∧ ((True ∧ (0 = 0 ∧ 3 = 3 ∧ 3 = 3) ∧ True) ∧ (3 = 3 ∧ QYw9D_37 b22.1.1.2 b0.1.1.2 b22.1.2.2
 b0.1.2.2 b22.1.3.2 b12.1) ∧ QYw9D_41 b22.1.1 b0.1.1 ∧ QYw9D_41 b22.1.2 b0.1.2 ∧ QYw9D_41 b22.1.3 b0.1.3 ∧ QYw9D_5 b22.1.1.1 b0.1.1.1 ∧ QYw9D_9 ∧ QYw9D_1 b22.1.1.1 b0.1.1.1 ∧
 QYw9D_10 ∧ QYw9D_11 b22.1.1.1.11 b0.1.1.1.11 ∧ QYw9D_11 b22.1.1.1.12 b0.1.1.1.12 ∧ QYw9D_11 b22.1.1.1.13 b0.1.1.1.13 ∧ QYw9D_11 b22.1.1.1.14 b0.1.1.1.14 ∧ QYw9D_11 b22.1.1.1.15
 b0.1.1.1.15 ∧ QYw9D_11 b22.1.1.1.16 b0.1.1.1.16 ∧ QYw9D_11 b22.1.1.1.17 b0.1.1.1.17 ∧ QYw9D_11 b22.1.1.1.18 b0.1.1.1.18 ∧ QYw9D_11 b22.1.1.2.1 b0.1.1.2.1 ∧ QYw9D_11 b22.1.1.2.2
 b0.1.1.2.2 ∧ QYw9D_11 b22.1.1.2.3 b0.1.1.2.3 ∧ QYw9D_17 b22.1.2.1 b0.1.2.1 b22.1.2.2 b0.1.2.2 b22.1.3.1 b0.1.3.1 b22.1.3.2 b12.1 b13.1 b22.1.3.3 b0.1.3.3 b22.1.3.4 b0.1.3.4
 b22.1.2.3 b0.1.2.3 b22.1.2.4 b0.1.2.4) ∧ True)) ∧ True) ∧ True) ∧ True) ∧ True) ∧ True)) ∧ True) ∧ True) ∧ True) ∧ (∀ (b12 : TnB), QYw9D_40 b12.1 b4 b0.1.3 b5 b6 → (True ∧ QYw9D_25
 b0.1.3 b4 b5 b6 b7 b8 b9 b10 ∧ (∃ (b13 b14 : Nat), isG b0.1.3.1 b0.1.3.2 b13 b14 ∧ actG b13 b14 b4 b5 b6 < (0 : Int))) ∧ QYw9D_24 b4 b5 b6 b7 b8 b9 b10 b0.1.3 ∧ (∀ (b13 : TnB),
 QYw9D_40 b13.1 b4 b0.1.3 b5 b6 → (b12.1 ≠ b13.1 → QYw9D_67 b4 b5 b6 b7 b8 b9 b10) ∧ (¬(b12.1 ≠ b13.1) → (True ∧ True ∧ True ∧ QYw9D_22) ∧ QYw9D_73 b0.1.3 ∧ QYw9D_48 b0.1.3.2
 b0.1.3.1 ∧ (∀ (b14 : TnB), QYw9D_46 b0.1.3.1 b0.1.3.2 b14.1 → (True ∧ QYw9D_22) ∧ (True ∧ True ∧ True ∧ QYw9D_22) ∧ QYw9D_73 b0.1.3 ∧ QYw9D_48 b0.1.3.2 b0.1.3.1 ∧ (∀ (b15 : TnB),
 QYw9D_46 b0.1.3.1 b0.1.3.2 b15.1 → (True ∧ QYw9D_22) ∧ (b14.1 ≠ b15.1 → QYw9D_78 b4 b5 b6 b7 b8 b9 b10) ∧ (¬(b14.1 ≠ b15.1) → QYw9D_20 b4 b5 b6 b7 b8 b9 b10 ∧ QYw9D_15 b0.1.3.2 ∧
 QYw9D_30 b0.1.3.2 ∧ (∀ (_ : Unit), True → QYw9D_6 b0.1.3.3 b0.1.3.4 ∧ QYw9D_8 b0.1.3.3 b0.1.3.4 ∧ (∀ (b17 : XyB), QYw9D_12 b0.1.3.3 b0.1.3.4 b17.1 b17.2 → ((True ∧ True ∧ True) ∧
 (True ∧ True ∧ True) ∧ (True ∧ True ∧ True) ∧ (W_G_inner_22 b0 = W_G_inner_22 b0 ∧ W_G_inner_22 b0 = W_G_inner_22 b0 ∧ True) ∧ True ∧ True ∧ True ∧ True ∧ True ∧ (True ∧ True) ∧
 (True ∧ True) ∧ (True ∧ True) ∧ (W_G_inner_22 b0 = W_G_inner_22 b0 ∧ True) ∧ True ∧ True ∧ True ∧ True) ∧ (True ∧ True ∧ True ∧ (True ∧ True) ∧ (W_G_inner_23 b0 = W_G_inner_23 b0 ∧
 True) ∧ (True ∧ True) ∧ (W_G_inner_23 b0 = W_G_inner_23 b0 ∧ True) ∧ True ∧ True ∧ True ∧ True) ∧ QYw9D_15 b0.1.3.2 ∧ QYw9D_30 b0.1.3.2 ∧ (∀ (_ : Unit), True → QYw9D_6 b0.1.3.3
 b0.1.3.4 ∧ QYw9D_8 b0.1.3.3 b0.1.3.4 ∧ (∀ (b19 : XyB), QYw9D_12 b0.1.3.3 b0.1.3.4 b19.1 b19.2 → ((True ∧ True ∧ True) ∧ (True ∧ True ∧ True) ∧ (True ∧ True ∧ True) ∧ (W_G_inner_24
 b0 = W_G_inner_24 b0 ∧ W_G_inner_24 b0 = W_G_inner_24 b0 ∧ True) ∧ True ∧ True ∧ True ∧ True ∧ True ∧ (True ∧ True) ∧ (True ∧ True) ∧ (True ∧ True) ∧ (W_G_inner_24 b0 =
 W_G_inner_24 b0 ∧ True) ∧ True ∧ True ∧ True ∧ True) ∧ (True ∧ True ∧ True ∧ (True ∧ True) ∧ (W_G_inner_25 b0 = W_G_inner_25 b0 ∧ True) ∧ (True ∧ True) ∧ (W_G_inner_25 b0 =
 W_G_inner_25 b0 ∧ True) ∧ True ∧ True ∧ True ∧ True) ∧ QYw9D_15 b0.1.3.2 ∧ QYw9D_55 b0.1.3.2 ∧ (∀ (_ : Unit), True → QYw9D_52 b0.1.3.1 ∧ (QYw9D_21 b0.1.3.1 → QYw9D_23 b0 u0)) ∧
 True) ∧ True) ∧ True) ∧ True) ∧ True)) ∧ True) ∧ True)) ∧ True) ∧ True))) ∧ (¬(b0.2 < (↑u0.9 : Int)) → QYw9D_15 b0.1.2.2 ∧ QYw9D_30 b0.1.2.2 ∧ (∀ (_ : Unit), True → QYw9D_6
 b0.1.2.3 b0.1.2.4 ∧ QYw9D_8 b0.1.2.3 b0.1.2.4 ∧ (∀ (b2 : XyB), QYw9D_12 b0.1.2.3 b0.1.2.4 b2.1 b2.2 → ((True ∧ True ∧ True) ∧ (True ∧ True ∧ True) ∧ (True ∧ True ∧ True) ∧
 (W_G_inner_26 b0 = W_G_inner_26 b0 ∧ W_G_inner_26 b0 = W_G_inner_26 b0 ∧ True) ∧ True ∧ True ∧ True ∧ True ∧ True ∧ (True ∧ True) ∧ (True ∧ True) ∧ (True ∧ True) ∧ (W_G_inner_26 b0
 = W_G_inner_26 b0 ∧ True) ∧ True ∧ True ∧ True ∧ True) ∧ (True ∧ True ∧ True ∧ (True ∧ True) ∧ (W_G_inner_27 b0 = W_G_inner_27 b0 ∧ True) ∧ (True ∧ True) ∧ (W_G_inner_27 b0 =
 W_G_inner_27 b0 ∧ True) ∧ True ∧ True ∧ True ∧ True) ∧ QYw9D_29 b0.1.2 b2) ∧ True) ∧ True)
set_option maxHeartbeats 3200000 in
def LB4 (u0 : InA) : Prop := ∀ (b0 : MnB), QYw9D_54 b0 u0.9 → (b0.2 < (↑u0.9 : Int) → ((0 : Int) ≤ b0.2 ∧ b0.2 < (↑u0.9 : Int)) ∧ (∃ (b1 b2 : Nat), W_G_inner_2 u0 = W_G_inner_1 b1 b2 ∧ ∀ (b3 : Nat), b3 = b2 +
 Int.toNat b0.2 * 5 → ∃ (b4 : Int), QYw9D_65 b1 b3 b4 ∧ ∃ (b5 : Int), QYw9D_62 b1 b3 b5 ∧ ∃ (b6 : Int), QYw9D_63 b1 b3 b6 ∧ ∃ (b7 : Int), QYw9D_66 b1 b3 b7 ∧ ∃ (b8 : Option Addr)
 (b9 b10 : Nat), QYw9D_74 b1 b3 b8 b9 b10 ∧ (5 : Int) ≠ (0 : Int) ∧ ∀ (b11 : Int), b11 = Int.tmod b4 (5 : Int) → ((2 : Int) < b11 → QYw9D_14 b0 u0) ∧ (¬((2 : Int) < b11) → (True ∧
 doP 4 (DoA.mk (StA.mk (OuA.mk b0.1.1.2.4 b0.1.1.2.5 b0.1.1.2.6 b0.1.1.2.7 b0.1.1.2.8 b0.1.1.3 b0.1.1.4) (OuA.mk b0.1.2.2.4 b0.1.2.2.5 b0.1.2.2.6 b0.1.2.2.7 b0.1.2.2.8 b0.1.2.3
 b0.1.2.4) (OuA.mk b0.1.3.2.4 b0.1.3.2.5 b0.1.3.2.6 b0.1.3.2.7 b0.1.3.2.8 b0.1.3.3 b0.1.3.4) b0.1.4.1 b0.1.4.2 b0.1.4.3 b0.1.4.4) b4 b5 b6 b7 b8 b9 b10) ∧ b4 % (5 : Int) ≤ (2 :
 Int)) ∧ QYw9D_32 b4 b5 b6 b7 b8 b9 b10 b0.1 ∧ (∀ (b12 : MvB), QYw9D_36 b0.1.4 b4 b5 b6 b12.1 → (True ∧ QYw9D_25 b0.1.4 b4 b5 b6 b7 b8 b9 b10 ∧ (∃ (b13 b14 b15 : Nat), isG b0.1.4.1
 b0.1.4.2 b13 b14 ∧ actG b13 b14 b4 b5 b6 = (↑b15 : Int))) ∧ QYw9D_24 b4 b5 b6 b7 b8 b9 b10 b0.1.4 ∧ (∀ (b13 : MvB), QYw9D_36 b0.1.4 b4 b5 b6 b13.1 → (True ∧ True ∧ True ∧ QYw9D_22)
 ∧ (True ∧ (∃ (b14 b15 : Nat), isG b0.1.4.1 b12.1 b14 b15)) ∧ QYw9D_48 b12.1 b0.1.4.1 ∧ (∀ (b14 : TnB), QYw9D_46 b0.1.4.1 b12.1 b14.1 → (True ∧ QYw9D_22) ∧ (True ∧ True ∧ True ∧
 QYw9D_22) ∧ (True ∧ (∃ (b15 b16 : Nat), isG b0.1.4.1 b13.1 b15 b16)) ∧ QYw9D_48 b13.1 b0.1.4.1 ∧ (∀ (b15 : TnB), QYw9D_46 b0.1.4.1 b13.1 b15.1 → (True ∧ QYw9D_22) ∧ (b14.1 ≠ b15.1
 → QYw9D_78 b4 b5 b6 b7 b8 b9 b10) ∧ (¬(b14.1 ≠ b15.1) → QYw9D_20 b4 b5 b6 b7 b8 b9 b10 ∧ QYw9D_15 b12.1 ∧ QYw9D_30 b12.1 ∧ (∀ (_ : Unit), True → QYw9D_6 b0.1.4.3 b0.1.4.4 ∧ QYw9D_8
 b0.1.4.3 b0.1.4.4 ∧ (∀ (b17 : XyB), QYw9D_12 b0.1.4.3 b0.1.4.4 b17.1 b17.2 → ((True ∧ True ∧ True) ∧ (True ∧ True ∧ True) ∧ (True ∧ True ∧ True) ∧ (W_G_inner_30 b0 b12 =
 W_G_inner_30 b0 b12 ∧ W_G_inner_30 b0 b12 = W_G_inner_30 b0 b12 ∧ True) ∧ True ∧ True ∧ True ∧ True ∧ True ∧ (True ∧ True) ∧ (True ∧ True) ∧ (True ∧ True) ∧ (W_G_inner_30 b0 b12 =
 W_G_inner_30 b0 b12 ∧ True) ∧ True ∧ True ∧ True ∧ True) ∧ (True ∧ True ∧ True ∧ (True ∧ True) ∧ (W_G_inner_31 b12 = W_G_inner_31 b12 ∧ True) ∧ (True ∧ True) ∧ (W_G_inner_31 b12 =
 W_G_inner_31 b12 ∧ True) ∧ True ∧ True ∧ True ∧ True) ∧ QYw9D_15 b13.1 ∧ QYw9D_30 b13.1 ∧ (∀ (_ : Unit), True → QYw9D_6 b0.1.4.3 b0.1.4.4 ∧ QYw9D_8 b0.1.4.3 b0.1.4.4 ∧ (∀ (b19 :
 XyB), QYw9D_12 b0.1.4.3 b0.1.4.4 b19.1 b19.2 → ((True ∧ True ∧ True) ∧ (True ∧ True ∧ True) ∧ (True ∧ True ∧ True) ∧ (W_G_inner_32 b13 = W_G_inner_32 b13 ∧ W_G_inner_32 b13 =
 W_G_inner_32 b13 ∧ True) ∧ True ∧ True ∧ True ∧ True ∧ True ∧ (True ∧ True) ∧ (True ∧ True) ∧ (True ∧ True) ∧ (W_G_inner_32 b13 = W_G_inner_32 b13 ∧ True) ∧ True ∧ True ∧ True ∧
 True) ∧ (True ∧ True ∧ True ∧ (True ∧ True) ∧ (W_G_inner_33 b13 = W_G_inner_33 b13 ∧ True) ∧ (True ∧ True) ∧ (W_G_inner_33 b13 = W_G_inner_33 b13 ∧ True) ∧ True ∧ True ∧ True ∧
 True) ∧ QYw9D_15 b12.1 ∧ QYw9D_44 b12.1 b13.1 ∧ (∀ (_ : Unit), True → QYw9D_52 b0.1.4.1 ∧ (QYw9D_21 b0.1.4.1 → ∀ (b21 : Int), b21 = IntKind.wrap .i64 (b0.2 + (1 : Int)) → ∃ (b22 :
 MnB), QYw9D_54 b22 u0.9 ∧ QYw9D_45 u0.9 b22.2 b0.2 ∧ (0 = 0 ∧ (3 : Int) = 3 ∧ QYw9D_31 u0.8 u0.9 u0.10 b22.2 b21) ∧ ((True ∧ (0 = 0 ∧ 4 = 4 ∧ 4 = 4) ∧ True) ∧ QYw9D_68 b22.1.1.2
 b0.1.1.2 b22.1.2.2 b0.1.2.2 b22.1.3.2 b0.1.3.2 b22.1.4.2 b12.1 ∧ QYw9D_41 b22.1.1 b0.1.1 ∧ QYw9D_41 b22.1.2 b0.1.2 ∧ QYw9D_41 b22.1.3 b0.1.3 ∧ QYw9D_41 b22.1.4 b0.1.4 ∧ QYw9D_5
 b22.1.1.1 b0.1.1.1 ∧ QYw9D_9 ∧ QYw9D_1 b22.1.1.1 b0.1.1.1 ∧ QYw9D_10 ∧ QYw9D_11 b22.1.1.1.11 b0.1.1.1.11 ∧ QYw9D_11 b22.1.1.1.12 b0.1.1.1.12 ∧ QYw9D_11 b22.1.1.1.13 b0.1.1.1.13 ∧
 QYw9D_11 b22.1.1.1.14 b0.1.1.1.14 ∧ QYw9D_11 b22.1.1.1.15 b0.1.1.1.15 ∧ QYw9D_11 b22.1.1.1.16 b0.1.1.1.16 ∧ QYw9D_11 b22.1.1.1.17 b0.1.1.1.17 ∧ QYw9D_11 b22.1.1.1.18 b0.1.1.1.18 ∧
 QYw9D_11 b22.1.1.2.1 b0.1.1.2.1 ∧ QYw9D_11 b22.1.1.2.2 b0.1.1.2.2 ∧ QYw9D_11 b22.1.1.2.3 b0.1.1.2.3 ∧ QYw9D_5 b22.1.2.1 b0.1.2.1 ∧ QYw9D_9 ∧ QYw9D_1 b22.1.2.1 b0.1.2.1 ∧ QYw9D_10 ∧
 QYw9D_11 b22.1.2.1.11 b0.1.2.1.11 ∧ QYw9D_11 b22.1.2.1.12 b0.1.2.1.12 ∧ QYw9D_11 b22.1.2.1.13 b0.1.2.1.13 ∧ QYw9D_11 b22.1.2.1.14 b0.1.2.1.14 ∧ QYw9D_11 b22.1.2.1.15 b0.1.2.1.15 ∧
 QYw9D_11 b22.1.2.1.16 b0.1.2.1.16 ∧ QYw9D_11 b22.1.2.1.17 b0.1.2.1.17 ∧ QYw9D_11 b22.1.2.1.18 b0.1.2.1.18 ∧ QYw9D_11 b22.1.2.2.1 b0.1.2.2.1 ∧ QYw9D_11 b22.1.2.2.2 b0.1.2.2.2 ∧
 QYw9D_11 b22.1.2.2.3 b0.1.2.2.3 ∧ QYw9D_17 b22.1.3.1 b0.1.3.1 b22.1.3.2 b0.1.3.2 b22.1.4.1 b0.1.4.1 b22.1.4.2 b12.1 b13.1 b22.1.4.3 b0.1.4.3 b22.1.4.4 b0.1.4.4 b22.1.3.3 b0.1.3.3
 b22.1.3.4 b0.1.3.4) ∧ True)) ∧ True) ∧ True) ∧ True) ∧ True) ∧ True)) ∧ True) ∧ True) ∧ True) ∧ (∀ (b12 : TnB), QYw9D_40 b12.1 b4 b0.1.4 b5 b6 → (True ∧ QYw9D_25 b0.1.4 b4 b5 b6 b7
 b8 b9 b10 ∧ (∃ (b13 b14 : Nat), isG b0.1.4.1 b0.1.4.2 b13 b14 ∧ actG b13 b14 b4 b5 b6 < (0 : Int))) ∧ QYw9D_24 b4 b5 b6 b7 b8 b9 b10 b0.1.4 ∧ (∀ (b13 : TnB), QYw9D_40 b13.1 b4
 b0.1.4 b5 b6 → (b12.1 ≠ b13.1 → QYw9D_67 b4 b5 b6 b7 b8 b9 b10) ∧ (¬(b12.1 ≠ b13.1) → (True ∧ True ∧ True ∧ QYw9D_22) ∧ QYw9D_73 b0.1.4 ∧ QYw9D_48 b0.1.4.2 b0.1.4.1 ∧ (∀ (b14 :
 TnB), QYw9D_46 b0.1.4.1 b0.1.4.2 b14.1 → (True ∧ QYw9D_22) ∧ (True ∧ True ∧ True ∧ QYw9D_22) ∧ QYw9D_73 b0.1.4 ∧ QYw9D_48 b0.1.4.2 b0.1.4.1 ∧ (∀ (b15 : TnB), QYw9D_46 b0.1.4.1
 b0.1.4.2 b15.1 → (True ∧ QYw9D_22) ∧ (b14.1 ≠ b15.1 → QYw9D_78 b4 b5 b6 b7 b8 b9 b10) ∧ (¬(b14.1 ≠ b15.1) → QYw9D_20 b4 b5 b6 b7 b8 b9 b10 ∧ QYw9D_15 b0.1.4.2 ∧ QYw9D_30 b0.1.4.2 ∧
 (∀ (_ : Unit), True → QYw9D_6 b0.1.4.3 b0.1.4.4 ∧ QYw9D_8 b0.1.4.3 b0.1.4.4 ∧ (∀ (b17 : XyB), QYw9D_12 b0.1.4.3 b0.1.4.4 b17.1 b17.2 → ((True ∧ True ∧ True) ∧ (True ∧ True ∧ True)
 ∧ (True ∧ True ∧ True) ∧ (W_G_inner_34 b0 = W_G_inner_34 b0 ∧ W_G_inner_34 b0 = W_G_inner_34 b0 ∧ True) ∧ True ∧ True ∧ True ∧ True ∧ True ∧ (True ∧ True) ∧ (True ∧ True) ∧ (True ∧
 True) ∧ (W_G_inner_34 b0 = W_G_inner_34 b0 ∧ True) ∧ True ∧ True ∧ True ∧ True) ∧ (True ∧ True ∧ True ∧ (True ∧ True) ∧ (W_G_inner_35 b0 = W_G_inner_35 b0 ∧ True) ∧ (True ∧ True) ∧
 (W_G_inner_35 b0 = W_G_inner_35 b0 ∧ True) ∧ True ∧ True ∧ True ∧ True) ∧ QYw9D_15 b0.1.4.2 ∧ QYw9D_30 b0.1.4.2 ∧ (∀ (_ : Unit), True → QYw9D_6 b0.1.4.3 b0.1.4.4 ∧ QYw9D_8 b0.1.4.3
 b0.1.4.4 ∧ (∀ (b19 : XyB), QYw9D_12 b0.1.4.3 b0.1.4.4 b19.1 b19.2 → ((True ∧ True ∧ True) ∧ (True ∧ True ∧ True) ∧ (True ∧ True ∧ True) ∧ (W_G_inner_36 b0 = W_G_inner_36 b0 ∧
 W_G_inner_36 b0 = W_G_inner_36 b0 ∧ True) ∧ True ∧ True ∧ True ∧ True ∧ True ∧ (True ∧ True) ∧ (True ∧ True) ∧ (True ∧ True) ∧ (W_G_inner_36 b0 = W_G_inner_36 b0 ∧ True) ∧ True ∧
 True ∧ True ∧ True) ∧ (True ∧ True ∧ True ∧ (True ∧ True) ∧ (W_G_inner_37 b0 = W_G_inner_37 b0 ∧ True) ∧ (True ∧ True) ∧ (W_G_inner_37 b0 = W_G_inner_37 b0 ∧ True) ∧ True ∧ True ∧
 True ∧ True) ∧ QYw9D_15 b0.1.4.2 ∧ QYw9D_55 b0.1.4.2 ∧ (∀ (_ : Unit), True → QYw9D_52 b0.1.4.1 ∧ (QYw9D_21 b0.1.4.1 → QYw9D_14 b0 u0)) ∧ True) ∧ True) ∧ True) ∧ True) ∧ True)) ∧
 True) ∧ True)) ∧ True) ∧ True))) ∧ (¬(b0.2 < (↑u0.9 : Int)) → QYw9D_15 b0.1.3.2 ∧ QYw9D_30 b0.1.3.2 ∧ (∀ (_ : Unit), True → QYw9D_6 b0.1.3.3 b0.1.3.4 ∧ QYw9D_8 b0.1.3.3 b0.1.3.4 ∧
 (∀ (b2 : XyB), QYw9D_12 b0.1.3.3 b0.1.3.4 b2.1 b2.2 → ((True ∧ True ∧ True) ∧ (True ∧ True ∧ True) ∧ (True ∧ True ∧ True) ∧ (W_G_inner_38 b0 = W_G_inner_38 b0 ∧ W_G_inner_38 b0 =
 W_G_inner_38 b0 ∧ True) ∧ True ∧ True ∧ True ∧ True ∧ True ∧ (True ∧ True) ∧ (True ∧ True) ∧ (True ∧ True) ∧ (W_G_inner_38 b0 = W_G_inner_38 b0 ∧ True) ∧ True ∧ True ∧ True ∧ True)
 ∧ (True ∧ True ∧ True ∧ (True ∧ True) ∧ (W_G_inner_39 b0 = W_G_inner_39 b0 ∧ True) ∧ (True ∧ True) ∧ (W_G_inner_39 b0 = W_G_inner_39 b0 ∧ True) ∧ True ∧ True ∧ True ∧ True) ∧
 QYw9D_29 b0.1.3 b2) ∧ True) ∧ True)
set_option maxHeartbeats 3200000 in
def RL1 (u0 : PoA) (u1 : Int) (u2 : Int) (u3 : Option AO) (u4 : Option AO) (u5 : Option AO) (u6 : Option AO) (u7 : Option AO) (u8 : RuA) (u9 : RuA) (u10 : PoA) (u11 : InA) : Prop
 := QYw9D_15 u0 ∧ QYw9D_30 u0 ∧ (∀ (_ : Unit), True → QYw9D_6 u1 u2 ∧ QYw9D_8 u1 u2 ∧ (∀ (b1 : XyB), QYw9D_12 u1 u2 b1.1 b1.2 → QYw9D_35 u3 u4 u5 ∧ QYw9D_50 u6 u7 ∧ QYw9D_79 u8 u0 u9
 u10 u1 u2 ∧ ((0 = 0 ∧ 0 = 0 ∧ QYw9D_13 u10 ∧ Z2 ∧ True) ∧ QYw9D_57 ∧ (True ∧ (0 = 0 ∧ 1 = 1 ∧ 1 = 1) ∧ True) ∧ (1 = 1 ∧ QYw9D_75 u0) ∧ (2 = 2 ∧ u1 = u1 ∧ u2 = u2 ∧ True) ∧ QYw9D_53
 u8 u0 u9 u10) ∧ (∀ (_ : Unit), (∃ (b3 b4 : Nat), isG u8 u0 b3 b4 ∧ (0 : Int) ≤ turnG b3 b4) → (True ∧ isGx u9 u10 ∧ QYw9D_70) ∧ QYw9D_39 u10 u9 ∧ (∀ (_ : Unit), True → ∀ (b4 :
 Int), b4 = (↑u11.9 : Int) → (∃ (b5 : MnB), QYw9D_72 b5 u11.9 ∧ (0 = 0 ∧ (1 : Int) = 1 ∧ QYw9D_71 u11 b4 b5.2) ∧ ((True ∧ Z2 ∧ True) ∧ (2 = 2 ∧ QYw9D_18 b5.1.1.2 u0 b5.1.2.2 u10) ∧
 QYw9D_56 b5.1.1 u1 u2 ∧ (2 = 2 ∧ b5.1.2.3 = Int.ofNat 0 ∧ b5.1.2.4 = Int.ofNat 0 ∧ True) ∧ QYw9D_16 b5.1.1.1 u8 b5.1.1.2 u0 b5.1.2.1 u9 b5.1.2.2 u10 b5.1.2.3 b5.1.2.4 b5.1.1.3 b1.1
 b5.1.1.4 b1.2) ∧ True) ∧ LB2 u11 ∧ True) ∧ True) ∧ QYw9D_47) ∧ True) ∧ True
set_option maxHeartbeats 3200000 in
def RL2 (u0 : PoA) (u1 : Int) (u2 : Int) (u3 : Option AO) (u4 : Option AO) (u5 : Option AO) (u6 : Option AO) (u7 : Option AO) (u8 : RuA) (u9 : RuA) (u10 : PoA) (u11 : PoA) (u12 :
 Int) (u13 : Int) (u14 : InA) (u15 : RuA) : Prop := QYw9D_15 u0 ∧ QYw9D_30 u0 ∧ (∀ (_ : Unit), True → QYw9D_6 u1 u2 ∧ QYw9D_8 u1 u2 ∧ (∀ (b1 : XyB), QYw9D_12 u1 u2 b1.1 b1.2 → QYw9D_35 u3 u4 u5 ∧ QYw9D_50 u6 u7 ∧ QYw9D_79 u8 u0 u9
 u10 u1 u2 ∧ ((0 = 0 ∧ 0 = 0 ∧ QYw9D_13 u10 ∧ Z2 ∧ True) ∧ QYw9D_57 ∧ (True ∧ Z2 ∧ True) ∧ (2 = 2 ∧ QYw9D_26 u11 u0) ∧ (2 = 2 ∧ u12 = u12 ∧ u13 = u13 ∧ True) ∧ (2 = 2 ∧ u1 = u1 ∧ u2
 = u2 ∧ True) ∧ (True ∧ True) ∧ (True ∧ True) ∧ (True ∧ True) ∧ (True ∧ True) ∧ QYw9D_53 u8 u0 u9 u10) ∧ (∀ (_ : Unit), (∃ (b3 b4 : Nat), isG u8 u0 b3 b4 ∧ (0 : Int) ≤ turnG b3 b4)
 → (True ∧ isGx u9 u10 ∧ QYw9D_70) ∧ QYw9D_39 u10 u9 ∧ (∀ (_ : Unit), True → ∀ (b4 : Int), b4 = (↑u14.9 : Int) → (∃ (b5 : MnB), QYw9D_58 b5 u14.9 ∧ (0 = 0 ∧ (2 : Int) = 2 ∧ QYw9D_71
 u14 b4 b5.2) ∧ ((True ∧ (0 = 0 ∧ 3 = 3 ∧ 3 = 3) ∧ True) ∧ (3 = 3 ∧ QYw9D_37 b5.1.1.2 u11 b5.1.2.2 u0 b5.1.3.2 u10) ∧ QYw9D_56 b5.1.1 u12 u13 ∧ QYw9D_56 b5.1.2 u1 u2 ∧ (2 = 2 ∧
 b5.1.3.3 = Int.ofNat 0 ∧ b5.1.3.4 = Int.ofNat 0 ∧ True) ∧ QYw9D_5 b5.1.1.1 u15 ∧ QYw9D_9 ∧ QYw9D_1 b5.1.1.1 u15 ∧ QYw9D_10 ∧ QYw9D_11 b5.1.1.1.11 u15.11 ∧ QYw9D_11 b5.1.1.1.12
 u15.12 ∧ QYw9D_11 b5.1.1.1.13 u15.13 ∧ QYw9D_11 b5.1.1.1.14 u15.14 ∧ QYw9D_11 b5.1.1.1.15 u15.15 ∧ QYw9D_11 b5.1.1.1.16 u15.16 ∧ QYw9D_11 b5.1.1.1.17 u15.17 ∧ QYw9D_11 b5.1.1.1.18
 u15.18 ∧ QYw9D_11 b5.1.1.2.1 u11.1 ∧ QYw9D_11 b5.1.1.2.2 u11.2 ∧ QYw9D_11 b5.1.1.2.3 u11.3 ∧ QYw9D_16 b5.1.2.1 u8 b5.1.2.2 u0 b5.1.3.1 u9 b5.1.3.2 u10 b5.1.3.3 b5.1.3.4 b5.1.2.3
 b1.1 b5.1.2.4 b1.2) ∧ True) ∧ LB3 u14 ∧ True) ∧ True) ∧ QYw9D_47) ∧ True) ∧ True
set_option maxHeartbeats 3200000 in
def RL3 (u0 : PoA) (u1 : Int) (u2 : Int) (u3 : Option AO) (u4 : Option AO) (u5 : Option AO) (u6 : Option AO) (u7 : Option AO) (u8 : RuA) (u9 : RuA) (u10 : PoA) (u11 : PoA) (u12 :
 PoA) (u13 : Int) (u14 : Int) (u15 : Int) (u16 : Int) (u17 : InA) (u18 : RuA) (u19 : RuA) : Prop := QYw9D_15 u0 ∧ QYw9D_30 u0 ∧ (∀ (_ : Unit), True → QYw9D_6 u1 u2 ∧ QYw9D_8 u1 u2 ∧ (∀ (b1 : XyB), QYw9D_12 u1 u2 b1.1 b1.2 → QYw9D_35 u3 u4 u5 ∧ QYw9D_50 u6 u7 ∧ QYw9D_79 u8 u0 u9
 u10 u1 u2 ∧ ((0 = 0 ∧ 0 = 0 ∧ QYw9D_13 u10 ∧ Z2 ∧ True) ∧ QYw9D_57 ∧ (True ∧ (0 = 0 ∧ 3 = 3 ∧ 3 = 3) ∧ True) ∧ (3 = 3 ∧ QYw9D_69 u11 u12 u0) ∧ (2 = 2 ∧ u13 = u13 ∧ u14 = u14 ∧
 True) ∧ (2 = 2 ∧ u15 = u15 ∧ u16 = u16 ∧ True) ∧ (2 = 2 ∧ u1 = u1 ∧ u2 = u2 ∧ True) ∧ (True ∧ True) ∧ (True ∧ True) ∧ (True ∧ True) ∧ (True ∧ True) ∧ (True ∧ True) ∧ (True ∧ True)
 ∧ (True ∧ True) ∧ (True ∧ True) ∧ QYw9D_53 u8 u0 u9 u10) ∧ (∀ (_ : Unit), (∃ (b3 b4 : Nat), isG u8 u0 b3 b4 ∧ (0 : Int) ≤ turnG b3 b4) → (True ∧ isGx u9 u10 ∧ QYw9D_70) ∧ QYw9D_39
 u10 u9 ∧ (∀ (_ : Unit), True → ∀ (b4 : Int), b4 = (↑u17.9 : Int) → (∃ (b5 : MnB), QYw9D_54 b5 u17.9 ∧ (0 = 0 ∧ (3 : Int) = 3 ∧ QYw9D_71 u17 b4 b5.2) ∧ ((True ∧ (0 = 0 ∧ 4 = 4 ∧ 4 =
 4) ∧ True) ∧ QYw9D_68 b5.1.1.2 u11 b5.1.2.2 u12 b5.1.3.2 u0 b5.1.4.2 u10 ∧ QYw9D_56 b5.1.1 u13 u14 ∧ QYw9D_56 b5.1.2 u15 u16 ∧ QYw9D_56 b5.1.3 u1 u2 ∧ (2 = 2 ∧ b5.1.4.3 = Int.ofNat
 0 ∧ b5.1.4.4 = Int.ofNat 0 ∧ True) ∧ QYw9D_5 b5.1.1.1 u18 ∧ QYw9D_9 ∧ QYw9D_1 b5.1.1.1 u18 ∧ QYw9D_10 ∧ QYw9D_11 b5.1.1.1.11 u18.11 ∧ QYw9D_11 b5.1.1.1.12 u18.12 ∧ QYw9D_11
 b5.1.1.1.13 u18.13 ∧ QYw9D_11 b5.1.1.1.14 u18.14 ∧ QYw9D_11 b5.1.1.1.15 u18.15 ∧ QYw9D_11 b5.1.1.1.16 u18.16 ∧ QYw9D_11 b5.1.1.1.17 u18.17 ∧ QYw9D_11 b5.1.1.1.18 u18.18 ∧ QYw9D_11
 b5.1.1.2.1 u11.1 ∧ QYw9D_11 b5.1.1.2.2 u11.2 ∧ QYw9D_11 b5.1.1.2.3 u11.3 ∧ QYw9D_5 b5.1.2.1 u19 ∧ QYw9D_9 ∧ QYw9D_1 b5.1.2.1 u19 ∧ QYw9D_10 ∧ QYw9D_11 b5.1.2.1.11 u19.11 ∧ QYw9D_11
 b5.1.2.1.12 u19.12 ∧ QYw9D_11 b5.1.2.1.13 u19.13 ∧ QYw9D_11 b5.1.2.1.14 u19.14 ∧ QYw9D_11 b5.1.2.1.15 u19.15 ∧ QYw9D_11 b5.1.2.1.16 u19.16 ∧ QYw9D_11 b5.1.2.1.17 u19.17 ∧ QYw9D_11
 b5.1.2.1.18 u19.18 ∧ QYw9D_11 b5.1.2.2.1 u12.1 ∧ QYw9D_11 b5.1.2.2.2 u12.2 ∧ QYw9D_11 b5.1.2.2.3 u12.3 ∧ QYw9D_16 b5.1.3.1 u8 b5.1.3.2 u0 b5.1.4.1 u9 b5.1.4.2 u10 b5.1.4.3 b5.1.4.4
 b5.1.3.3 b1.1 b5.1.3.4 b1.2) ∧ True) ∧ LB4 u17 ∧ True) ∧ True) ∧ QYw9D_47) ∧ True) ∧ True
def RL4 (u0 : PoA) (u1 : Int) (u2 : Int) (u3 : Option AO) (u4 : Option AO) (u5 : Option AO) (u6 : Option AO) (u7 : Option AO) (u8 : PoA) (u9 : PoA) (u10 : PoA) (u11 : PoA) (u12 :
 Int) (u13 : Int) (u14 : Int) (u15 : Int) (u16 : Int) (u17 : Int) : Prop := QYw9D_15 u0 ∧ QYw9D_30 u0 ∧ (∀ (_ : Unit), True → QYw9D_6 u1 u2 ∧ QYw9D_8 u1 u2 ∧ (∀ (b1 : XyB), QYw9D_12 u1 u2 b1.1 b1.2 → QYw9D_35 u3 u4 u5 ∧ QYw9D_50 u6 u7 ∧ (True ∧ True) ∧ ((0
 = 0 ∧ 0 = 0 ∧ QYw9D_13 u8 ∧ Z2 ∧ True) ∧ QYw9D_57 ∧ (True ∧ (0 = 0 ∧ 4 = 4 ∧ 4 = 4) ∧ True) ∧ (4 = 4 ∧ 0 = 0 ∧ Z2 ∧ Z2 ∧ Z2 ∧ Z1 u9.4 ∧ Z1 u9.5 ∧ Z1 u9.6 ∧ Z1 u9.7 ∧ Z1 u9.8 ∧ Z2 ∧
 QYw9D_69 u10 u11 u0) ∧ (2 = 2 ∧ u12 = u12 ∧ u13 = u13 ∧ True) ∧ (2 = 2 ∧ u14 = u14 ∧ u15 = u15 ∧ True) ∧ (2 = 2 ∧ u16 = u16 ∧ u17 = u17 ∧ True) ∧ (2 = 2 ∧ u1 = u1 ∧ u2 = u2 ∧ True)
 ∧ (True ∧ True) ∧ (True ∧ True) ∧ (True ∧ True) ∧ (True ∧ True) ∧ (True ∧ True) ∧ (True ∧ True) ∧ (True ∧ True) ∧ (True ∧ True) ∧ (True ∧ True) ∧ (True ∧ True) ∧ (True ∧ True) ∧
 (True ∧ True) ∧ (True ∧ True) ∧ (True ∧ True) ∧ (True ∧ True) ∧ (True ∧ True) ∧ (True ∧ True) ∧ (True ∧ True) ∧ (True ∧ True) ∧ (True ∧ True) ∧ True) ∧ QYw9D_47) ∧ True) ∧ True
end
set_option maxHeartbeats 6400000 in
theorem vc_inner (a : InA) : G_inner a = ((True ∧ True) ∧ (True ∧ QYw9D_38) ∧ (∀ (_ : Unit), True → (True ∧ a.6 ≤ 9223372036854775807 ∧ (∀ (x1 : Nat), x1 < a.6 → ∃ (x2 x3 : Nat), W_G_inner_0 a = W_G_inner_1 x2 x3 ∧ actX1
x2 (x3 + x1 * 5))) ∧ ((Value.slice a.5 a.6 a.7 = Value.slice a.5 a.6 a.7 ∧ True) ∧ True) ∧ (∀ (_ : Unit), True → (True ∧ True) ∧ (True ∧ QYw9D_38) ∧ QYw9D_47) ∧ (∀ (_ : Unit),
Nat.le a.6 40 → (True ∧ a.9 ≤ 9223372036854775807 ∧ (∀ (x8 : Nat), x8 < a.9 → ∃ (x9 x10 : Nat), W_G_inner_2 a = W_G_inner_1 x9 x10 ∧ actX1 x9 (x10 + x8 * 5))) ∧ ((Value.slice a.8
a.9 a.10 = Value.slice a.8 a.9 a.10 ∧ True) ∧ True) ∧ (∀ (_ : Unit), True → (True ∧ True) ∧ (True ∧ QYw9D_38) ∧ QYw9D_47) ∧ (∀ (_ : Unit), Nat.le a.9 40 → (True ∧ (0 ≤ a.1 ∧ a.1 <
256) ∧ (0 ≤ a.3 ∧ a.3 < 65536) ∧ 0 ≤ a.4 ∧ a.4 < 65536) ∧ ((Z1 a.1 ∧ (Z1 a.3 ∧ Z1 a.4 ∧ True) ∧ True) ∧ QYw9D_38) ∧ (∀ (x15 : GtA), (∃ (x16 : Nat), (x16 = 0 ∨ x16 = 1) ∧ (↑x16 :
Int) = a.1 % (2 : Int) ∧ isG x15.1 x15.2 x16 0) → (True ∧ 0 ≤ a.2 ∧ a.2 < 256) ∧ ((Z1 a.2 ∧ True) ∧ QYw9D_38) ∧ (∀ (x17 : GtA), (∃ (x18 : Nat), (x18 = 0 ∨ x18 = 1) ∧ (↑x18 : Int) =
a.2 % (2 : Int) ∧ isG x17.1 x17.2 x18 0) → ∀ (x19 : Int), x19 = (↑a.6 : Int) → (∃ (x20 : BkB), QYw9D_77 a x20 ∧ (Value.slice a.8 a.9 a.10 = Value.slice a.8 a.9 a.10 ∧ 0 = 0 ∧ 0 = 0
∧ 0 = 0 ∧ Value.slice a.5 a.6 a.7 = Value.slice a.5 a.6 a.7 ∧ (↑a.6 : Int) = x19 ∧ x20.2 = 0 ∧ True) ∧ ((True ∧ (0 = 0 ∧ 1 = 1 ∧ 1 = 1) ∧ True) ∧ (1 = 1 ∧ 0 = 0 ∧ QYw9D_33
x20.1.1.2 x15.2) ∧ (2 = 2 ∧ x20.1.1.3 = a.3 ∧ x20.1.1.4 = a.4 ∧ True) ∧ QYw9D_7 x20.1.1.1 x15.1 x20.1.1.2 x15.2 x20.3 x17.1 x20.4 x17.2) ∧ True) ∧ (∀ (x21 : BkB), QYw9D_77 a x21 →
(x21.2 < (↑a.6 : Int) → (0 ≤ x21.2 ∧ x21.2 < (↑a.6 : Int)) ∧ (∃ (x22 x23 : Nat), W_G_inner_0 a = W_G_inner_1 x22 x23 ∧ ∀ (x24 : Nat), x24 = x23 + Int.toNat x21.2 * 5 → ∃ (x25 :
Int), QYw9D_65 x22 x24 x25 ∧ ∃ (x26 : Int), QYw9D_62 x22 x24 x26 ∧ ∃ (x27 : Int), QYw9D_63 x22 x24 x27 ∧ ∃ (x28 : Int), QYw9D_66 x22 x24 x28 ∧ ∃ (x29 : Option Addr) (x30 x31 :
Nat), QYw9D_74 x22 x24 x29 x30 x31 ∧ (True ∧ isGx x21.1.1.1 x21.1.1.2 ∧ ((smQ x21.1.1.3 ∧ smQ x21.1.1.4) ∧ QYw9D_70) ∧ QYw9D_49 x25 x27 x28 ∧ twoX x29 x30 x31) ∧ QYw9D_24 x25 x26
x27 x28 x29 x30 x31 x21.1.1 ∧ (∀ (x32 : MvB), QYw9D_36 x21.1.1 x25 x26 x27 x32.1 → TA1 x21.2 a x32.1 x21.1.1.3 x21.1.1.4 x21.1.1.1 x21.3 x21.4) ∧ (∀ (x38 : TnB), QYw9D_60 x38.1 x25
x21.1.1 x26 x27 → TA1 x21.2 a x21.1.1.2 x21.1.1.3 x21.1.1.4 x21.1.1.1 x21.3 x21.4) ∧ (∀ (x43 : BgM), begQ (DoA.mk (StA.mk (OuA.mk (0 : Int) (0 : Int) (0 : Int) (0 : Int) (0 : Int)
(0 : Int) (0 : Int)) (OuA.mk (0 : Int) (0 : Int) (0 : Int) (0 : Int) (0 : Int) (0 : Int) (0 : Int)) (OuA.mk (0 : Int) (0 : Int) (0 : Int) (0 : Int) (0 : Int) (0 : Int) (0 : Int))
x21.1.1.1 x21.1.1.2 x21.1.1.3 x21.1.1.4) x25 x26 x27 x28 x29 x30 x31) (BgB.mk x43.1 x43.2 x43.3) ∧ x43.4 = x21.1.1.3 - x43.3.1 ∧ x43.5 = x21.1.1.4 - x43.3.2 → TA2 x21.2 a x21.1.1.2
x43.2 x43.4 x43.5 x43.3.1 x43.3.2 x21.1.1.1 x43.1 x21.3 x21.4) ∧ True)) ∧ (¬(x21.2 < (↑a.6 : Int)) → RL1 x21.1.1.2 x21.1.1.3 x21.1.1.4 (W_G_inner_3 x21) (W_G_inner_3 x21)
(W_G_inner_3 x21) (W_G_inner_4 x21) (W_G_inner_4 x21) x21.1.1.1 x21.3 x21.4 a)) ∧ (∀ (x164 : BkB), monJ 2 (MnA.mk a.1 a.3 a.4 a.5 a.6 a.7) (MnB.mk x164.1 x164.2) ∧ stQ x164.3
x164.4 → (x164.2 < (↑a.6 : Int) → (0 ≤ x164.2 ∧ x164.2 < (↑a.6 : Int)) ∧ (∃ (x165 x166 : Nat), W_G_inner_0 a = W_G_inner_1 x165 x166 ∧ ∀ (x167 : Nat), x167 = x166 + Int.toNat
x164.2 * 5 → ∃ (x168 : Int), QYw9D_65 x165 x167 x168 ∧ ∃ (x169 : Int), QYw9D_62 x165 x167 x169 ∧ ∃ (x170 : Int), QYw9D_63 x165 x167 x170 ∧ ∃ (x171 : Int), QYw9D_66 x165 x167 x171 ∧
∃ (x172 : Option Addr) (x173 x174 : Nat), QYw9D_74 x165 x167 x172 x173 x174 ∧ (True ∧ isGx x164.1.2.1 x164.1.2.2 ∧ ((smQ x164.1.2.3 ∧ smQ x164.1.2.4) ∧ smQ x164.1.1.3 ∧ smQ
x164.1.1.4) ∧ QYw9D_49 x168 x170 x171 ∧ twoX x172 x173 x174) ∧ (QYw9D_59 x168 x169 x170 x171 x172 x173 x174 ∧ QYw9D_64 x164.1) ∧ (∀ (x175 : MvB), QYw9D_36 x164.1.2 x168 x169 x170
x175.1 → TA2 x164.2 a x164.1.1.2 x175.1 x164.1.1.3 x164.1.1.4 x164.1.2.3 x164.1.2.4 x164.1.1.1 x164.1.2.1 x164.3 x164.4) ∧ (∀ (x181 : TnB), QYw9D_60 x181.1 x168 x164.1.2 x169 x170
→ TA2 x164.2 a x164.1.1.2 x164.1.2.2 x164.1.1.3 x164.1.1.4 x164.1.2.3 x164.1.2.4 x164.1.1.1 x164.1.2.1 x164.3 x164.4) ∧ (∀ (x186 : BgM), begQ (DoA.mk (StA.mk (OuA.mk x164.1.1.2.4
x164.1.1.2.5 x164.1.1.2.6 x164.1.1.2.7 x164.1.1.2.8 x164.1.1.3 x164.1.1.4) (OuA.mk (0 : Int) (0 : Int) (0 : Int) (0 : Int) (0 : Int) (0 : Int) (0 : Int)) (OuA.mk (0 : Int) (0 :
Int) (0 : Int) (0 : Int) (0 : Int) (0 : Int) (0 : Int)) x164.1.2.1 x164.1.2.2 x164.1.2.3 x164.1.2.4) x168 x169 x170 x171 x172 x173 x174) (BgB.mk x186.1 x186.2 x186.3) ∧ x186.4 =
x164.1.2.3 - x186.3.1 ∧ x186.5 = x164.1.2.4 - x186.3.2 → TA3 x164.2 a x164.1.1.2 x164.1.2.2 x186.2 x164.1.1.3 x164.1.1.4 x186.4 x186.5 x186.3.1 x186.3.2 x164.1.1.1 x164.1.2.1
x186.1 x164.3 x164.4) ∧ (∀ (x189 : EnM), endQ (DoA.mk (StA.mk (OuA.mk x164.1.1.2.4 x164.1.1.2.5 x164.1.1.2.6 x164.1.1.2.7 x164.1.1.2.8 x164.1.1.3 x164.1.1.4) (OuA.mk (0 : Int) (0 :
Int) (0 : Int) (0 : Int) (0 : Int) (0 : Int) (0 : Int)) (OuA.mk (0 : Int) (0 : Int) (0 : Int) (0 : Int) (0 : Int) (0 : Int) (0 : Int)) x164.1.2.1 x164.1.2.2 x164.1.2.3 x164.1.2.4)
x168 x169 x170 x171 x172 x173 x174) x189.1 ∧ x189.2 = x164.1.1.3 + x189.1.1 ∧ x189.3 = x164.1.1.4 + x189.1.2 → TA1 x164.2 a x164.1.1.2 x189.2 x189.3 x164.1.1.1 x164.3 x164.4) ∧
True)) ∧ (¬(x164.2 < (↑a.6 : Int)) → RL2 x164.1.2.2 x164.1.2.3 x164.1.2.4 (W_G_inner_16 x164) (W_G_inner_16 x164) (W_G_inner_16 x164) (W_G_inner_17 x164) (W_G_inner_17 x164)
x164.1.2.1 x164.3 x164.4 x164.1.1.2 x164.1.1.3 x164.1.1.4 a x164.1.1.1)) ∧ (∀ (x310 : BkB), monJ 3 (MnA.mk a.1 a.3 a.4 a.5 a.6 a.7) (MnB.mk x310.1 x310.2) ∧ stQ x310.3 x310.4 →
(x310.2 < (↑a.6 : Int) → (0 ≤ x310.2 ∧ x310.2 < (↑a.6 : Int)) ∧ (∃ (x311 x312 : Nat), W_G_inner_0 a = W_G_inner_1 x311 x312 ∧ ∀ (x313 : Nat), x313 = x312 + Int.toNat x310.2 * 5 → ∃
(x314 : Int), QYw9D_65 x311 x313 x314 ∧ ∃ (x315 : Int), QYw9D_62 x311 x313 x315 ∧ ∃ (x316 : Int), QYw9D_63 x311 x313 x316 ∧ ∃ (x317 : Int), QYw9D_66 x311 x313 x317 ∧ ∃ (x318 :
Option Addr) (x319 x320 : Nat), QYw9D_74 x311 x313 x318 x319 x320 ∧ (True ∧ isGx x310.1.3.1 x310.1.3.2 ∧ ((smQ x310.1.3.3 ∧ smQ x310.1.3.4) ∧ smQ x310.1.2.3 ∧ smQ x310.1.2.4) ∧
QYw9D_49 x314 x316 x317 ∧ twoX x318 x319 x320) ∧ QYw9D_42 x314 x315 x316 x317 x318 x319 x320 x310.1 ∧ (∀ (x321 : MvB), QYw9D_36 x310.1.3 x314 x315 x316 x321.1 → TA3 x310.2 a
x310.1.1.2 x310.1.2.2 x321.1 x310.1.1.3 x310.1.1.4 x310.1.2.3 x310.1.2.4 x310.1.3.3 x310.1.3.4 x310.1.1.1 x310.1.2.1 x310.1.3.1 x310.3 x310.4) ∧ (∀ (x327 : TnB), QYw9D_60 x327.1
x314 x310.1.3 x315 x316 → TA3 x310.2 a x310.1.1.2 x310.1.2.2 x310.1.3.2 x310.1.1.3 x310.1.1.4 x310.1.2.3 x310.1.2.4 x310.1.3.3 x310.1.3.4 x310.1.1.1 x310.1.2.1 x310.1.3.1 x310.3
x310.4) ∧ (∀ (x332 : BgM), begQ (DoA.mk (StA.mk (OuA.mk x310.1.1.2.4 x310.1.1.2.5 x310.1.1.2.6 x310.1.1.2.7 x310.1.1.2.8 x310.1.1.3 x310.1.1.4) (OuA.mk x310.1.2.2.4 x310.1.2.2.5
x310.1.2.2.6 x310.1.2.2.7 x310.1.2.2.8 x310.1.2.3 x310.1.2.4) (OuA.mk (0 : Int) (0 : Int) (0 : Int) (0 : Int) (0 : Int) (0 : Int) (0 : Int)) x310.1.3.1 x310.1.3.2 x310.1.3.3
x310.1.3.4) x314 x315 x316 x317 x318 x319 x320) (BgB.mk x332.1 x332.2 x332.3) ∧ x332.4 = x310.1.3.3 - x332.3.1 ∧ x332.5 = x310.1.3.4 - x332.3.2 → TA4 x310.2 a x310.1.1.2 x310.1.2.2
x310.1.3.2 x332.2 x310.1.1.3 x310.1.1.4 x310.1.2.3 x310.1.2.4 x332.4 x332.5 x332.3.1 x332.3.2 x310.1.1.1 x310.1.2.1 x310.1.3.1 x332.1 x310.3 x310.4) ∧ (∀ (x335 : EnM), endQ (DoA.mk
(StA.mk (OuA.mk x310.1.1.2.4 x310.1.1.2.5 x310.1.1.2.6 x310.1.1.2.7 x310.1.1.2.8 x310.1.1.3 x310.1.1.4) (OuA.mk x310.1.2.2.4 x310.1.2.2.5 x310.1.2.2.6 x310.1.2.2.7 x310.1.2.2.8
x310.1.2.3 x310.1.2.4) (OuA.mk (0 : Int) (0 : Int) (0 : Int) (0 : Int) (0 : Int) (0 : Int) (0 : Int)) x310.1.3.1 x310.1.3.2 x310.1.3.3 x310.1.3.4) x314 x315 x316 x317 x318 x319
x320) x335.1 ∧ x335.2 = x310.1.2.3 + x335.1.1 ∧ x335.3 = x310.1.2.4 + x335.1.2 → TA2 x310.2 a x310.1.1.2 x310.1.2.2 x310.1.1.3 x310.1.1.4 x335.2 x335.3 x310.1.1.1 x310.1.2.1 x310.3
x310.4) ∧ True)) ∧ (¬(x310.2 < (↑a.6 : Int)) → RL3 x310.1.3.2 x310.1.3.3 x310.1.3.4 (W_G_inner_28 x310) (W_G_inner_28 x310) (W_G_inner_28 x310) (W_G_inner_29 x310) (W_G_inner_29
x310) x310.1.3.1 x310.3 x310.4 x310.1.1.2 x310.1.2.2 x310.1.1.3 x310.1.1.4 x310.1.2.3 x310.1.2.4 a x310.1.1.1 x310.1.2.1)) ∧ (∀ (x456 : BkB), monJ 4 (MnA.mk a.1 a.3 a.4 a.5 a.6
a.7) (MnB.mk x456.1 x456.2) ∧ stQ x456.3 x456.4 → (x456.2 < (↑a.6 : Int) → (0 ≤ x456.2 ∧ x456.2 < (↑a.6 : Int)) ∧ (∃ (x457 x458 : Nat), W_G_inner_0 a = W_G_inner_1 x457 x458 ∧ ∀
(x459 : Nat), x459 = x458 + Int.toNat x456.2 * 5 → ∃ (x460 : Int), QYw9D_65 x457 x459 x460 ∧ ∃ (x461 : Int), QYw9D_62 x457 x459 x461 ∧ ∃ (x462 : Int), QYw9D_63 x457 x459 x462 ∧ ∃
(x463 : Int), QYw9D_66 x457 x459 x463 ∧ ∃ (x464 : Option Addr) (x465 x466 : Nat), QYw9D_74 x457 x459 x464 x465 x466 ∧ (True ∧ isGx x456.1.4.1 x456.1.4.2 ∧ ((smQ x456.1.4.3 ∧ smQ
x456.1.4.4) ∧ smQ x456.1.3.3 ∧ smQ x456.1.3.4) ∧ QYw9D_49 x460 x462 x463 ∧ twoX x464 x465 x466) ∧ QYw9D_32 x460 x461 x462 x463 x464 x465 x466 x456.1 ∧ (∀ (x467 : MvB), QYw9D_36
x456.1.4 x460 x461 x462 x467.1 → TA4 x456.2 a x456.1.1.2 x456.1.2.2 x456.1.3.2 x467.1 x456.1.1.3 x456.1.1.4 x456.1.2.3 x456.1.2.4 x456.1.3.3 x456.1.3.4 x456.1.4.3 x456.1.4.4
x456.1.1.1 x456.1.2.1 x456.1.3.1 x456.1.4.1 x456.3 x456.4) ∧ (∀ (x473 : TnB), QYw9D_60 x473.1 x460 x456.1.4 x461 x462 → TA4 x456.2 a x456.1.1.2 x456.1.2.2 x456.1.3.2 x456.1.4.2
x456.1.1.3 x456.1.1.4 x456.1.2.3 x456.1.2.4 x456.1.3.3 x456.1.3.4 x456.1.4.3 x456.1.4.4 x456.1.1.1 x456.1.2.1 x456.1.3.1 x456.1.4.1 x456.3 x456.4) ∧ (∀ (x478 : EnM), endQ (DoA.mk
(StA.mk (OuA.mk x456.1.1.2.4 x456.1.1.2.5 x456.1.1.2.6 x456.1.1.2.7 x456.1.1.2.8 x456.1.1.3 x456.1.1.4) (OuA.mk x456.1.2.2.4 x456.1.2.2.5 x456.1.2.2.6 x456.1.2.2.7 x456.1.2.2.8
x456.1.2.3 x456.1.2.4) (OuA.mk x456.1.3.2.4 x456.1.3.2.5 x456.1.3.2.6 x456.1.3.2.7 x456.1.3.2.8 x456.1.3.3 x456.1.3.4) x456.1.4.1 x456.1.4.2 x456.1.4.3 x456.1.4.4) x460 x461 x462
x463 x464 x465 x466) x478.1 ∧ x478.2 = x456.1.3.3 + x478.1.1 ∧ x478.3 = x456.1.3.4 + x478.1.2 → TA3 x456.2 a x456.1.1.2 x456.1.2.2 x456.1.3.2 x456.1.1.3 x456.1.1.4 x456.1.2.3
x456.1.2.4 x478.2 x478.3 x456.1.1.1 x456.1.2.1 x456.1.3.1 x456.3 x456.4) ∧ True)) ∧ (¬(x456.2 < (↑a.6 : Int)) → RL4 x456.1.4.2 x456.1.4.3 x456.1.4.4 (W_G_inner_40 x456)
(W_G_inner_40 x456) (W_G_inner_40 x456) (W_G_inner_41 x456) (W_G_inner_41 x456) x456.4 x456.1.1.2 x456.1.2.2 x456.1.3.2 x456.1.1.3 x456.1.1.4 x456.1.2.3 x456.1.2.4 x456.1.3.3
x456.1.3.4)) ∧ True) ∧ True) ∧ True) ∧ True) ∧ True) ∧ True) := by kernel_rfl
end Go.Proofs.YtfkacmmcgncooaaGreatDoor
