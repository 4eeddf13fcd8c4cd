/- The law of rolls. -/
import Derived.Test.YtdjnipabfbblnaaGreatDoorYrs
set_option maxRecDepth 100000
set_option linter.constructorNameAsVariable false
namespace Go.Proofs.YtdjnipabfbblnaaGreatDoor
open Go.Ev
-- fold gD := (GmA.mk (SA.mk Bool.false (0 : Nat) (2 : Nat) (2 : Nat) sD) (SA.mk Bool.false (0 : Nat) (2 : Nat) (2 : Nat) cD) (CdA.mk (2 : Int) (2 : Int) (SA.mk Bool.false (0 : Nat) (2 : Nat) (2 : Nat) fD) (SA.mk Bool.true (0 : Nat) (0 : Nat) (0 : Nat) []) (SA.mk Bool.false (0 : Nat) (1 : Nat) (1 : Nat) w0D) (SA.mk Bool.false (0 : Nat) (9 : Nat) (9 : Nat) w1D) (SA.mk Bool.false (0 : Nat) (6 : Nat) (6 : Nat) w2D) (SA.mk Bool.false (0 : Nat) (4 : Nat) (4 : Nat) w3D) (SA.mk Bool.false (0 : Nat) (7 : Nat) (7 : Nat) w4D) (8 : Int) (16 : Int) (16 : Int) (12 : Int) (15 : Int)))
-- fold codD := (CdA.mk (2 : Int) (2 : Int) (SA.mk Bool.false (0 : Nat) (2 : Nat) (2 : Nat) fD) (SA.mk Bool.true (0 : Nat) (0 : Nat) (0 : Nat) []) (SA.mk Bool.false (0 : Nat) (1 : Nat) (1 : Nat) w0D) (SA.mk Bool.false (0 : Nat) (9 : Nat) (9 : Nat) w1D) (SA.mk Bool.false (0 : Nat) (6 : Nat) (6 : Nat) w2D) (SA.mk Bool.false (0 : Nat) (4 : Nat) (4 : Nat) w3D) (SA.mk Bool.false (0 : Nat) (7 : Nat) (7 : Nat) w4D) (8 : Int) (16 : Int) (16 : Int) (12 : Int) (15 : Int))
set_option linter.unusedSectionVars false
variable [Go.Ev.Frozen Tryz.prog]
noncomputable section
abbrev codD : CdA := gD.code
def W_G_rolls_0 : RL → Option AO := fun (a : RL) => Option.some (AO.row [Value.iface (1000000007 : Nat) (Value.int IntKind.u8 (a.2 % (256 : Int))), Value.iface (1000000007 : Nat) (Value.int IntKind.u8 (a.2 / (256 :
Int) % (256 : Int))), Value.iface (1000000007 : Nat) (Value.int IntKind.u8 (a.2 / (65536 : Int) % (256 : Int))), Value.iface (1000000007 : Nat) (Value.int IntKind.u8 (a.2 /
(16777216 : Int) % (256 : Int))), Value.iface (1000000007 : Nat) (Value.int IntKind.u8 (a.2 / (4294967296 : Int) % (256 : Int))), Value.iface (1000000007 : Nat) (Value.int
IntKind.u8 (a.2 / (1099511627776 : Int) % (256 : Int))), Value.iface (1000000007 : Nat) (Value.int IntKind.u8 (a.2 / (281474976710656 : Int) % (256 : Int))), Value.iface
(1000000007 : Nat) (Value.int IntKind.u8 (a.2 / (72057594037927936 : Int) % (256 : Int)))] (50 : Nat) Md.own)
def W_G_rolls_1 : RS → Option AO := fun (x27 : RS) => Option.some (AO.row [Value.iface (1000000007 : Nat) (Value.int IntKind.u8 x27.2.1), Value.iface (1000000007 : Nat) (Value.int IntKind.u8 x27.2.2), Value.iface
(1000000007 : Nat) (Value.int IntKind.u8 x27.2.3), Value.iface (1000000007 : Nat) (Value.int IntKind.u8 x27.2.4), Value.iface (1000000007 : Nat) (Value.int IntKind.u8 x27.2.5),
Value.iface (1000000007 : Nat) (Value.int IntKind.u8 x27.2.6), Value.iface (1000000007 : Nat) (Value.int IntKind.u8 x27.2.7), Value.iface (1000000007 : Nat) (Value.int IntKind.u8
x27.2.8)] (50 : Nat) Md.own)
set_option maxHeartbeats 3200000 in
abbrev QYrwP_13 : Prop := True ∧ True ∧ (0 = 0 ∧ 2 = 2 ∧ 2 = 2) ∧ True ∧ True ∧ True ∧ True ∧ True ∧ True ∧ True ∧ True ∧ 0 = 0 ∧ True ∧ (false = false ∧ 0 = 0 ∧ 2 = 2 ∧ 2 = 2) ∧
 True
abbrev QYrwP_6 : Prop := True ∧ (2 : Int) = 2 ∧ (2 : Int) = 2 ∧ (false = false ∧ 0 = 0 ∧ 2 = 2 ∧ 2 = 2) ∧ (true = true ∧ 0 = 0 ∧ 0 = 0 ∧ 0 = 0) ∧ (false = false ∧ 0 = 0 ∧ 1 = 1 ∧ 1
 = 1) ∧ (false = false ∧ 0 = 0 ∧ 9 = 9 ∧ 9 = 9) ∧ (false = false ∧ 0 = 0 ∧ 6 = 6 ∧ 6 = 6) ∧ (false = false ∧ 0 = 0 ∧ 4 = 4 ∧ 4 = 4) ∧ (false = false ∧ 0 = 0 ∧ 7 = 7 ∧ 7 = 7) ∧ (8 :
 Int) = 8 ∧ (16 : Int) = 16 ∧ (16 : Int) = 16 ∧ (12 : Int) = 12 ∧ (15 : Int) = 15 ∧ True
abbrev QYrwP_27 : Prop := True ∧ FlatL [] ∧ ([] : List Value) = []
abbrev QYrwP_12 (a0 : D8) (a1 : D8) : Prop := a0.1 = a1.1 ∧ a0.2 = a1.2 ∧ a0.3 = a1.3 ∧ a0.4 = a1.4 ∧ a0.5 = a1.5 ∧ a0.6 = a1.6 ∧ a0.7 = a1.7 ∧ a0.8 = a1.8 ∧ True
abbrev QYrwP_23 : Prop := ZF cells1 ∧ ZF cells2 ∧ ZF cells3 ∧ ZF cells4 ∧ ZF cells6 ∧ ZF cells7 ∧ ZF cells8 ∧ ZF cells9 ∧ ZF cells11 ∧ True
abbrev QYrwP_9 (a0 : PA) (a1 : PA) : Prop := (True ∧ (a0.1.1 = a1.1.1 ∧ a0.1.2 = a1.1.2 ∧ a0.1.3 = a1.1.3 ∧ a0.1.4 = a1.1.4) ∧ (a0.2.1 = a1.2.1 ∧ a0.2.2 = a1.2.2 ∧ a0.2.3 = a1.2.3
 ∧ a0.2.4 = a1.2.4) ∧ (a0.3.1 = a1.3.1 ∧ a0.3.2 = a1.3.2 ∧ a0.3.3 = a1.3.3 ∧ a0.3.4 = a1.3.4) ∧ a0.4 = a1.4 ∧ a0.5 = a1.5 ∧ a0.6 = a1.6 ∧ a0.7 = a1.7 ∧ a0.8 = a1.8 ∧ True) ∧ (True ∧
 FlatL a0.1.5 ∧ a0.1.5 = a1.1.5) ∧ (True ∧ FlatL a0.2.5 ∧ a0.2.5 = a1.2.5) ∧ (True ∧ FlatL a0.3.5 ∧ a0.3.5 = a1.3.5) ∧ QYrwP_23
abbrev QYrwP_1 (a0 : RS) (a1 : RS) (a2 : PA) : Prop := (QYrwP_13 ∧ ZF sD ∧ ZF cD ∧ QYrwP_6 ∧ ZF fD ∧ QYrwP_27 ∧ ZF w0D ∧ ZF w1D ∧ ZF w2D ∧ ZF w3D ∧ ZF w4D ∧ (True ∧ QYrwP_12 a0.1
 a1.1) ∧ (True ∧ QYrwP_12 a0.2 a1.2) ∧ QYrwP_9 a0.3 a2) ∧ True
abbrev QYrwP_37 : Prop := false = false ∧ nat_lit 0 = 0 ∧ nat_lit 2 = 2 ∧ nat_lit 2 = 2
abbrev QYrwP_2 : Prop := True ∧ Int.ofNat 2 = (2 : Int) ∧ Int.ofNat 2 = (2 : Int) ∧ QYrwP_37 ∧ (true = true ∧ nat_lit 0 = 0 ∧ nat_lit 0 = 0 ∧ nat_lit 0 = 0) ∧ (false = false ∧
 nat_lit 0 = 0 ∧ nat_lit 1 = 1 ∧ nat_lit 1 = 1) ∧ (false = false ∧ nat_lit 0 = 0 ∧ nat_lit 9 = 9 ∧ nat_lit 9 = 9) ∧ (false = false ∧ nat_lit 0 = 0 ∧ nat_lit 6 = 6 ∧ nat_lit 6 = 6) ∧
 (false = false ∧ nat_lit 0 = 0 ∧ nat_lit 4 = 4 ∧ nat_lit 4 = 4) ∧ (false = false ∧ nat_lit 0 = 0 ∧ nat_lit 7 = 7 ∧ nat_lit 7 = 7) ∧ Int.ofNat 8 = (8 : Int) ∧ Int.ofNat 16 = (16 :
 Int) ∧ Int.ofNat 16 = (16 : Int) ∧ Int.ofNat 12 = (12 : Int) ∧ Int.ofNat 15 = (15 : Int) ∧ True
abbrev QYrwP_3 (a0 : RS) (a1 : RS) : Prop := (QYrwP_13 ∧ ZF sD ∧ ZF cD ∧ QYrwP_6 ∧ ZF fD ∧ QYrwP_27 ∧ ZF w0D ∧ ZF w1D ∧ ZF w2D ∧ ZF w3D ∧ ZF w4D ∧ (True ∧ QYrwP_12 a0.1 a1.1) ∧
 (True ∧ QYrwP_12 a0.2 a1.2) ∧ QYrwP_9 a0.3 a1.3) ∧ True
abbrev QYrwP_30 (a0 : PA) : Prop := a0.1.3 ≤ 1000 ∧ a0.2.3 ≤ 1000 ∧ a0.3.3 ≤ 1000
abbrev QYrwP_20 (a0 : PA) : Prop := (∃ (b0 : PX), PH a0 b0 ∧ PW a0 b0 ∧ Byts8 b0.3) ∧ QYrwP_30 a0
abbrev QYrwP_10 (a0 : List Int) : Prop := Sli (Value.int IntKind.i32) 1 true (nat_lit 0) (nat_lit 0) (nat_lit 0) [] a0
abbrev QYrwP_36 (a0 : D8) : Prop := (∃ (b0 : List Int), QYrwP_10 b0 ∧ W32 b0) ∧ D8.Ok a0 ∧ nat_lit 0 ≤ 1000
abbrev QYrwP_31 (a0 : PA) : Prop := Z4 a0.1 ∧ Z4 a0.2 ∧ Z4 a0.3 ∧ ZR a0
abbrev QYrwP_17 (a0 : D8) : Prop := a0.1 = a0.1 ∧ a0.2 = a0.2 ∧ a0.3 = a0.3 ∧ a0.4 = a0.4 ∧ a0.5 = a0.5 ∧ a0.6 = a0.6 ∧ a0.7 = a0.7 ∧ a0.8 = a0.8 ∧ True
abbrev QYrwP_33 (a0 : D8) : Prop := (true = true ∧ (true = true ∧ nat_lit 0 = 0 ∧ nat_lit 0 = 0) ∧ QYrwP_17 a0) ∧ True
abbrev QYrwP_7 : Prop := True ∧ True ∧ QYrwP_37 ∧ True ∧ True ∧ True ∧ True ∧ True ∧ True ∧ True ∧ True ∧ 0 = 0 ∧ True ∧ QYrwP_37 ∧ True
abbrev QYrwP_15 (a0 : PA) : Prop := QYrwP_7 ∧ ZF sD ∧ ZF cD ∧ QYrwP_2 ∧ ZF fD ∧ QYrwP_27 ∧ ZF w0D ∧ ZF w1D ∧ ZF w2D ∧ ZF w3D ∧ ZF w4D ∧ ZF a0.1.5 ∧ ZF a0.2.5 ∧ ZF a0.3.5 ∧ (FlatL
 [] ∧ True) ∧ ZF cells4 ∧ True
abbrev QYrwP_35 (a0 : RS) (a1 : Int) : Prop := 0 = 0 ∧ 0 = 0 ∧ 0 = 0 ∧ 0 = 0 ∧ a0.4 = 0 ∧ a0.5 = a1 ∧ True
abbrev QYrwP_8 (a0 : RL) (a1 : RS) (a2 : Int) (a3 : RS) : Prop := (a0.1 = a0.1 ∧ a0.2 = a0.2 ∧ a0.3 = a0.3 ∧ 0 = 0 ∧ 0 = 0 ∧ 0 = 0 ∧ 0 = 0 ∧ a1.4 = a2 ∧ a1.5 = a3.5 ∧ True) ∧
 (QYrwP_13 ∧ ZF sD ∧ ZF cD ∧ QYrwP_6 ∧ ZF fD ∧ QYrwP_27 ∧ ZF w0D ∧ ZF w1D ∧ ZF w2D ∧ ZF w3D ∧ ZF w4D ∧ (True ∧ QYrwP_12 a1.1 a3.1) ∧ (True ∧ QYrwP_12 a1.2 a3.2) ∧ (True ∧ (a1.3.1.1
 = true ∧ a1.3.1.3 = 0 ∧ a1.3.1.4 = 0) ∧ (a1.3.2.1 = true ∧ a1.3.2.3 = 0 ∧ a1.3.2.4 = 0) ∧ (a1.3.3.1 = true ∧ a1.3.3.3 = 0 ∧ a1.3.3.4 = 0) ∧ a1.3.4 = 0 ∧ a1.3.5 = 0 ∧ a1.3.6 = 0 ∧
 a1.3.7 = 0 ∧ a1.3.8 = 0 ∧ True) ∧ (FlatL a1.3.1.5 ∧ True) ∧ (FlatL a1.3.2.5 ∧ True) ∧ (FlatL a1.3.3.5 ∧ True) ∧ QYrwP_23) ∧ True
abbrev QYrwP_4 (a0 : RL) : Prop := ∀ (b0 : RS), (xyOf a0 b0 ∧ isAt b0.3 (sR1 b0.1 b0.2)) ∧ b0.5 = IntKind.wrap .u64 (a0.2 + a0.1) ∧ a0.3 % (3 : Int) ≠ (1 : Int) → (True ∧ GOk gD ∧
 QYrwP_20 b0.3 ∧ QYrwP_36 b0.2) ∧ ((0 = 0 ∧ QYrwP_31 b0.3 ∧ Int.ofNat 1 = (1 : Int) ∧ QYrwP_33 b0.2) ∧ QYrwP_15 b0.3) ∧ (∀ (b1 : PA), (∀ (b2 : PX) (b3 : GX) (b4 : List Int), PH b0.3
 b2 → GH gD b3 → QYrwP_10 b4 → ∃ (b5 : PX), PH b1 b5 ∧ doX b3 (PsX.mk b2 b0.3.4 b0.3.5 b0.3.6 b0.3.7 b0.3.8) (Int.ofNat 1) (MX.mk true b4 b0.2) = Except.ok (PsX.mk b5 b1.4 b1.5 b1.6
 b1.7 b1.8)) → ∃ (b2 : RS), (xyOf a0 b2 ∧ b2.4 = 0 ∧ midR a0 b2) ∧ (a0.1 = a0.1 ∧ a0.2 = a0.2 ∧ a0.3 = a0.3 ∧ QYrwP_35 b2 b0.5) ∧ QYrwP_1 b2 b0 b1) ∧ (∀ (b1 : KI), b1.1 ≠ 0 ∧ (∀ (b2
 : PX) (b3 : GX) (b4 : List Int), PH b0.3 b2 → GH gD b3 → QYrwP_10 b4 → doX b3 (PsX.mk b2 b0.3.4 b0.3.5 b0.3.6 b0.3.7 b0.3.8) (Int.ofNat 1) (MX.mk true b4 b0.2) = Except.error b1.1)
 → ∃ (b2 : RS), (xyOf a0 b2 ∧ b2.4 = 0 ∧ midR a0 b2) ∧ QYrwP_8 a0 b2 b1.1 b0) ∧ True
abbrev QYrwP_34 : Prop := True ∧ True ∧ True ∧ True ∧ True ∧ True ∧ True ∧ True ∧ True ∧ True
abbrev QYrwP_26 (a0 : RS) : Prop := True ∧ True ∧ True ∧ True ∧ True ∧ (W_G_rolls_1 a0 = W_G_rolls_1 a0 ∧ True) ∧ QYrwP_34
abbrev QYrwP_18 (a0 : PA) (a1 : PB) (a2 : PX) : Prop := PH (PA.mk (SA.mk a0.1.1 0 a0.1.3 a1.1.1 a1.1.2) (SA.mk a0.2.1 0 a0.2.3 a1.2.1 a1.2.2) (SA.mk a0.3.1 0 a0.3.3 a1.3.1 a1.3.2)
 a0.4 a0.5 a0.6 a0.7 a0.8) a2
abbrev QYrwP_21 (a0 : PA) (a1 : PB) : Prop := ((Z4 a0.1 ∧ Z4 a0.2 ∧ Z4 a0.3 ∧ ZR a0) ∧ ((a0.1.1 = a0.1.1 ∧ nat_lit 0 = 0 ∧ a0.1.3 = a0.1.3 ∧ a1.1.1 = a1.1.1) ∧ (a0.2.1 = a0.2.1 ∧
 nat_lit 0 = 0 ∧ a0.2.3 = a0.2.3 ∧ a1.2.1 = a1.2.1) ∧ (a0.3.1 = a0.3.1 ∧ nat_lit 0 = 0 ∧ a0.3.3 = a0.3.3 ∧ a1.3.1 = a1.3.1) ∧ a0.4 = a0.4 ∧ a0.5 = a0.5 ∧ a0.6 = a0.6 ∧ a0.7 = a0.7 ∧
 a0.8 = a0.8 ∧ True) ∧ True) ∧ ZF a0.1.5 ∧ ZF a0.2.5 ∧ ZF a0.3.5 ∧ ZF a1.1.2 ∧ ZF a1.2.2 ∧ ZF a1.3.2 ∧ True
abbrev QYrwP_29 (a0 : PA) (a1 : PB) (a2 : Bool) : Prop := ∀ (b0 b1 : PX), PH a0 b0 → QYrwP_18 a0 a1 b1 → (a2 = true ↔ b0 = b1 ∧ RollsEq a0 (PA.mk (SA.mk a0.1.1 0 a0.1.3 a1.1.1
 a1.1.2) (SA.mk a0.2.1 0 a0.2.3 a1.2.1 a1.2.2) (SA.mk a0.3.1 0 a0.3.3 a1.3.1 a1.3.2) a0.4 a0.5 a0.6 a0.7 a0.8))
abbrev QYrwP_28 (a0 : RL) (a1 : Int) (a2 : RS) : Prop := ∃ (b0 : RS), ((xyOf a0 b0 ∧ isAt b0.3 (sR1 b0.1 b0.2)) ∧ b0.5 = IntKind.wrap .u64 (a0.2 + a0.1) ∧ a0.3 % (3 : Int) ≠ (1 :
 Int)) ∧ (a0.1 = a0.1 ∧ a0.2 = a0.2 ∧ a0.3 = a0.3 ∧ 0 = 0 ∧ 0 = 0 ∧ 0 = 0 ∧ 0 = 0 ∧ b0.5 = a1 ∧ True) ∧ QYrwP_3 b0 a2
abbrev QYrwP_5 (a0 : RS) (a1 : PB) (a2 : RL) (a3 : Int) : Prop := (True ∧ D8.Ok a0.1) ∧ ((QYrwP_17 a0.1 ∧ True) ∧ True) ∧ (∀ (b0 : D8), b0 = oneC a0.1 → (True ∧ D8.Ok a0.2) ∧
 ((QYrwP_17 a0.2 ∧ True) ∧ True) ∧ (∀ (b1 : D8), b1 = oneC a0.2 → (¬(QYrwP_12 b0 b1) → QYrwP_26 a0 ∧ (∃ (_ : Unit), True ∧ true = false ∧ True)) ∧ (QYrwP_12 b0 b1 → (True ∧ ((∃ (b2
 : PX), PH a0.3 b2) ∧ (∃ (b2 : PX), QYrwP_18 a0.3 a1 b2)) ∧ QYrwP_30 a0.3 ∧ QYrwP_30 a0.3) ∧ QYrwP_21 a0.3 a1 ∧ (∀ (b2 : BL), QYrwP_29 a0.3 a1 b2.1 → (b2.1 = true → QYrwP_26 a0 ∧
 QYrwP_28 a2 a3 a0) ∧ (b2.1 = false → QYrwP_26 a0 ∧ ∃ (_ : Unit), True ∧ true = false ∧ True)) ∧ True)) ∧ True) ∧ True
abbrev QYrwP_11 (a0 : PA) : Prop := QYrwP_7 ∧ ZF sD ∧ ZF cD ∧ QYrwP_2 ∧ ZF fD ∧ QYrwP_27 ∧ ZF w0D ∧ ZF w1D ∧ ZF w2D ∧ ZF w3D ∧ ZF w4D ∧ ZF a0.1.5 ∧ ZF a0.2.5 ∧ ZF a0.3.5 ∧ ZF
 cells4 ∧ True
abbrev QYrwP_14 (a0 : PA) : Prop := True ∧ (gmF gD ∧ cdP codD ∧ (0 : Int) ≤ Int.ofNat 16 ∧ a0.1.3 ≤ 1000) ∧ (∃ (b0 : PX), PH a0 b0 ∧ W32 b0.1) ∧ (∃ (b0 : List Int), Sli (Value.int
 IntKind.i32) 2 false (nat_lit 0) (nat_lit 2) (nat_lit 2) cD b0) ∧ ∃ (b0 : List Int), Sli (Value.int IntKind.i64) 4 false (nat_lit 0) (nat_lit 9) (nat_lit 9) w1D b0
abbrev QYrwP_16 (a0 : Int) : Prop := ((a0 % 256 = a0 % (256 : Int) ∧ a0 / (256 : Int) % 256 = a0 / (256 : Int) % (256 : Int) ∧ a0 / (65536 : Int) % 256 = a0 / (65536 : Int) % (256
 : Int) ∧ a0 / (16777216 : Int) % 256 = a0 / (16777216 : Int) % (256 : Int) ∧ a0 / (4294967296 : Int) % 256 = a0 / (4294967296 : Int) % (256 : Int) ∧ a0 / (1099511627776 : Int) %
 256 = a0 / (1099511627776 : Int) % (256 : Int) ∧ a0 / (281474976710656 : Int) % 256 = a0 / (281474976710656 : Int) % (256 : Int) ∧ a0 / (72057594037927936 : Int) % 256 = a0 /
 (72057594037927936 : Int) % (256 : Int) ∧ True) ∧ True) ∧ True
abbrev QYrwP_19 (a0 : PA) (a1 : Int) : Prop := ∀ (b0 : PX) (b1 b2 : List Int), PH a0 b0 → Sli (Value.int IntKind.i32) 2 false (nat_lit 0) (nat_lit 2) (nat_lit 2) cD b1 → Sli
 (Value.int IntKind.i64) 4 false (nat_lit 0) (nat_lit 9) (nat_lit 9) w1D b2 → a1 = turnC (GpA.mk gD a0) b0 b1 b2
abbrev QYrwP_22 (a0 : D8) (a1 : Int) : Prop := True ∧ a0.1 = a1 % (256 : Int) ∧ a0.2 = a1 / (256 : Int) % (256 : Int) ∧ a0.3 = a1 / (65536 : Int) % (256 : Int) ∧ a0.4 = a1 /
 (16777216 : Int) % (256 : Int) ∧ a0.5 = a1 / (4294967296 : Int) % (256 : Int) ∧ a0.6 = a1 / (1099511627776 : Int) % (256 : Int) ∧ a0.7 = a1 / (281474976710656 : Int) % (256 : Int)
 ∧ a0.8 = a1 / (72057594037927936 : Int) % (256 : Int) ∧ True
abbrev QYrwP_24 (a0 : Int) : Prop := True ∧ D8.Ok (D8.mk (a0 % (256 : Int)) (a0 / (256 : Int) % (256 : Int)) (a0 / (65536 : Int) % (256 : Int)) (a0 / (16777216 : Int) % (256 :
 Int)) (a0 / (4294967296 : Int) % (256 : Int)) (a0 / (1099511627776 : Int) % (256 : Int)) (a0 / (281474976710656 : Int) % (256 : Int)) (a0 / (72057594037927936 : Int) % (256 :
 Int)))
abbrev QYrwP_25 (a0 : D8) (a1 : Int) : Prop := a0 = oneC (D8.mk (a1 % (256 : Int)) (a1 / (256 : Int) % (256 : Int)) (a1 / (65536 : Int) % (256 : Int)) (a1 / (16777216 : Int) % (256
 : Int)) (a1 / (4294967296 : Int) % (256 : Int)) (a1 / (1099511627776 : Int) % (256 : Int)) (a1 / (281474976710656 : Int) % (256 : Int)) (a1 / (72057594037927936 : Int) % (256 :
 Int)))
abbrev QYrwP_32 (a0 : RS) : Prop := a0.4 = 0 ∧ (0 ≤ a0.5 ∧ a0.5 < 18446744073709551616) ∧ endR a0
theorem vc_rolls (a : RL) : G_rolls a = ((True ∧ True) ∧ ((Array.toList (ByteArray.data (ByteArray.mk (Array.mk [UInt8.ofNat 103, UInt8.ofNat 97, UInt8.ofNat 109, UInt8.ofNat 101, UInt8.ofNat 32, UInt8.ofNat 103,
UInt8.ofNat 32, UInt8.ofNat 115, UInt8.ofNat 101, UInt8.ofNat 97, UInt8.ofNat 116, UInt8.ofNat 115, UInt8.ofNat 32, UInt8.ofNat 50, UInt8.ofNat 32, UInt8.ofNat 115, UInt8.ofNat
116, UInt8.ofNat 97, UInt8.ofNat 107, UInt8.ofNat 101, UInt8.ofNat 32, UInt8.ofNat 49, UInt8.ofNat 32, UInt8.ofNat 49, UInt8.ofNat 32, UInt8.ofNat 118, UInt8.ofNat 97, UInt8.ofNat
114, UInt8.ofNat 32, UInt8.ofNat 110, UInt8.ofNat 32, UInt8.ofNat 48, UInt8.ofNat 32, UInt8.ofNat 49, UInt8.ofNat 32, UInt8.ofNat 118, UInt8.ofNat 97, UInt8.ofNat 114, UInt8.ofNat
32, UInt8.ofNat 100, UInt8.ofNat 32, UInt8.ofNat 48, UInt8.ofNat 32, UInt8.ofNat 57, UInt8.ofNat 32, UInt8.ofNat 115, UInt8.ofNat 116, UInt8.ofNat 97, UInt8.ofNat 114, UInt8.ofNat
116, UInt8.ofNat 32, UInt8.ofNat 101, UInt8.ofNat 110, UInt8.ofNat 100, UInt8.ofNat 32, UInt8.ofNat 116, UInt8.ofNat 117, UInt8.ofNat 114, UInt8.ofNat 110, UInt8.ofNat 32,
UInt8.ofNat 105, UInt8.ofNat 102, UInt8.ofNat 32, UInt8.ofNat 110, UInt8.ofNat 32, UInt8.ofNat 116, UInt8.ofNat 104, UInt8.ofNat 101, UInt8.ofNat 110, UInt8.ofNat 32, UInt8.ofNat
111, UInt8.ofNat 118, UInt8.ofNat 101, UInt8.ofNat 114, UInt8.ofNat 32, UInt8.ofNat 101, UInt8.ofNat 108, UInt8.ofNat 115, UInt8.ofNat 101, UInt8.ofNat 32, UInt8.ofNat 115,
UInt8.ofNat 101, UInt8.ofNat 97, UInt8.ofNat 116, UInt8.ofNat 32, UInt8.ofNat 48, UInt8.ofNat 32, UInt8.ofNat 101, UInt8.ofNat 110, UInt8.ofNat 100, UInt8.ofNat 32, UInt8.ofNat
101, UInt8.ofNat 110, UInt8.ofNat 100, UInt8.ofNat 32, UInt8.ofNat 112, UInt8.ofNat 108, UInt8.ofNat 97, UInt8.ofNat 121, UInt8.ofNat 32, UInt8.ofNat 110, UInt8.ofNat 32,
UInt8.ofNat 61, UInt8.ofNat 32, UInt8.ofNat 49, UInt8.ofNat 32, UInt8.ofNat 114, UInt8.ofNat 111, UInt8.ofNat 108, UInt8.ofNat 108, UInt8.ofNat 32, UInt8.ofNat 100, UInt8.ofNat 32,
UInt8.ofNat 54, UInt8.ofNat 32, UInt8.ofNat 101, UInt8.ofNat 110, UInt8.ofNat 100, UInt8.ofNat 32, UInt8.ofNat 115, UInt8.ofNat 105, UInt8.ofNat 108, UInt8.ofNat 101, UInt8.ofNat
110, UInt8.ofNat 116, UInt8.ofNat 32, UInt8.ofNat 119, UInt8.ofNat 104, UInt8.ofNat 111, UInt8.ofNat 32, UInt8.ofNat 110, UInt8.ofNat 32, UInt8.ofNat 61, UInt8.ofNat 32,
UInt8.ofNat 49, UInt8.ofNat 32, UInt8.ofNat 101, UInt8.ofNat 110, UInt8.ofNat 100, UInt8.ofNat 32, UInt8.ofNat 112, UInt8.ofNat 97, UInt8.ofNat 121, UInt8.ofNat 32, UInt8.ofNat
114, UInt8.ofNat 101, UInt8.ofNat 115, UInt8.ofNat 116, UInt8.ofNat 32, UInt8.ofNat 100, UInt8.ofNat 32, UInt8.ofNat 37, UInt8.ofNat 32, UInt8.ofNat 50, UInt8.ofNat 32, UInt8.ofNat
101, UInt8.ofNat 110, UInt8.ofNat 100]))) = Array.toList (ByteArray.data (ByteArray.mk (List.toArray (List.append (List.append [UInt8.ofNat 103, UInt8.ofNat 97, UInt8.ofNat 109,
UInt8.ofNat 101, UInt8.ofNat 32, UInt8.ofNat 103, UInt8.ofNat 32, UInt8.ofNat 115, UInt8.ofNat 101, UInt8.ofNat 97, UInt8.ofNat 116, UInt8.ofNat 115, UInt8.ofNat 32, UInt8.ofNat
50, UInt8.ofNat 32, UInt8.ofNat 115, UInt8.ofNat 116, UInt8.ofNat 97, UInt8.ofNat 107, UInt8.ofNat 101, UInt8.ofNat 32, UInt8.ofNat 49, UInt8.ofNat 32, UInt8.ofNat 49, UInt8.ofNat
32, UInt8.ofNat 118, UInt8.ofNat 97, UInt8.ofNat 114, UInt8.ofNat 32, UInt8.ofNat 110, UInt8.ofNat 32, UInt8.ofNat 48, UInt8.ofNat 32, UInt8.ofNat 49, UInt8.ofNat 32, UInt8.ofNat
118, UInt8.ofNat 97, UInt8.ofNat 114, UInt8.ofNat 32] [UInt8.ofNat 100, UInt8.ofNat 32, UInt8.ofNat 48, UInt8.ofNat 32, UInt8.ofNat 57, UInt8.ofNat 32, UInt8.ofNat 115, UInt8.ofNat
116, UInt8.ofNat 97, UInt8.ofNat 114, UInt8.ofNat 116, UInt8.ofNat 32, UInt8.ofNat 101, UInt8.ofNat 110, UInt8.ofNat 100, UInt8.ofNat 32, UInt8.ofNat 116, UInt8.ofNat 117,
UInt8.ofNat 114, UInt8.ofNat 110, UInt8.ofNat 32, UInt8.ofNat 105, UInt8.ofNat 102, UInt8.ofNat 32, UInt8.ofNat 110, UInt8.ofNat 32, UInt8.ofNat 116, UInt8.ofNat 104, UInt8.ofNat
101, UInt8.ofNat 110, UInt8.ofNat 32, UInt8.ofNat 111, UInt8.ofNat 118, UInt8.ofNat 101, UInt8.ofNat 114, UInt8.ofNat 32, UInt8.ofNat 101, UInt8.ofNat 108, UInt8.ofNat 115,
UInt8.ofNat 101]) (List.append [UInt8.ofNat 32, UInt8.ofNat 115, UInt8.ofNat 101, UInt8.ofNat 97, UInt8.ofNat 116, UInt8.ofNat 32, UInt8.ofNat 48, UInt8.ofNat 32, UInt8.ofNat 101,
UInt8.ofNat 110, UInt8.ofNat 100, UInt8.ofNat 32, UInt8.ofNat 101, UInt8.ofNat 110, UInt8.ofNat 100, UInt8.ofNat 32, UInt8.ofNat 112, UInt8.ofNat 108, UInt8.ofNat 97, UInt8.ofNat
121, UInt8.ofNat 32, UInt8.ofNat 110, UInt8.ofNat 32, UInt8.ofNat 61, UInt8.ofNat 32, UInt8.ofNat 49, UInt8.ofNat 32, UInt8.ofNat 114, UInt8.ofNat 111, UInt8.ofNat 108, UInt8.ofNat
108, UInt8.ofNat 32, UInt8.ofNat 100, UInt8.ofNat 32, UInt8.ofNat 54, UInt8.ofNat 32, UInt8.ofNat 101, UInt8.ofNat 110, UInt8.ofNat 100] [UInt8.ofNat 32, UInt8.ofNat 115,
UInt8.ofNat 105, UInt8.ofNat 108, UInt8.ofNat 101, UInt8.ofNat 110, UInt8.ofNat 116, UInt8.ofNat 32, UInt8.ofNat 119, UInt8.ofNat 104, UInt8.ofNat 111, UInt8.ofNat 32, UInt8.ofNat
110, UInt8.ofNat 32, UInt8.ofNat 61, UInt8.ofNat 32, UInt8.ofNat 49, UInt8.ofNat 32, UInt8.ofNat 101, UInt8.ofNat 110, UInt8.ofNat 100, UInt8.ofNat 32, UInt8.ofNat 112, UInt8.ofNat
97, UInt8.ofNat 121, UInt8.ofNat 32, UInt8.ofNat 114, UInt8.ofNat 101, UInt8.ofNat 115, UInt8.ofNat 116, UInt8.ofNat 32, UInt8.ofNat 100, UInt8.ofNat 32, UInt8.ofNat 37,
UInt8.ofNat 32, UInt8.ofNat 50, UInt8.ofNat 32, UInt8.ofNat 101, UInt8.ofNat 110, UInt8.ofNat 100]))))) ∧ True) ∧ QYrwP_23) ∧ (∀ (_ : Unit), True → (True ∧ (0 ≤ a.1 ∧ a.1 <
18446744073709551616) ∧ True) ∧ ((a.1 = a.1 ∧ True) ∧ True) ∧ (∀ (_ : Unit), True → (True ∧ (0 ≤ a.2 ∧ a.2 < 18446744073709551616) ∧ True) ∧ ((a.2 = a.2 ∧ True) ∧ True) ∧ (∀ (_ :
Unit), True → QYrwP_24 a.1 ∧ QYrwP_16 a.1 ∧ (∀ (x3 : D8), QYrwP_25 x3 a.1 → QYrwP_24 a.2 ∧ QYrwP_16 a.2 ∧ (∀ (x4 : D8), QYrwP_25 x4 a.2 → (True ∧ True) ∧ ((0 = 0 ∧ (0 = 0 ∧ 2 = 2 ∧
2 = 2) ∧ True) ∧ QYrwP_13 ∧ ZF sD ∧ ZF cD ∧ QYrwP_6 ∧ ZF fD ∧ QYrwP_27 ∧ ZF w0D ∧ ZF w1D ∧ ZF w2D ∧ ZF w3D ∧ ZF w4D ∧ (True ∧ x3.1 = x3.1 ∧ x3.2 = x3.2 ∧ x3.3 = x3.3 ∧ x3.4 = x3.4
∧ x3.5 = x3.5 ∧ x3.6 = x3.6 ∧ x3.7 = x3.7 ∧ x3.8 = x3.8 ∧ QYrwP_17 x4) ∧ ZF cells4 ∧ True) ∧ (∀ (x5 : PA), (∃ (x6 : PX), PH x5 x6 ∧ PsX.mk x6 x5.4 x5.5 x5.6 x5.7 x5.8 = PsX.mk
(PX.mk [(0 : Int), (0 : Int)] [false, false] ([x3.1, x3.2, x3.3, x3.4, x3.5, x3.6, x3.7, x3.8] ++ [x4.1, x4.2, x4.3, x4.4, x4.5, x4.6, x4.7, x4.8])) (0 : Int) (0 : Int) (0 : Int)
(0 : Int) (0 : Int)) → ((True ∧ True ∧ True ∧ True) ∧ True ∧ True ∧ (W_G_rolls_0 a = W_G_rolls_0 a ∧ True) ∧ True ∧ True ∧ True ∧ True ∧ True ∧ (True ∧ True) ∧ (True ∧ True ∧ True
∧ True ∧ True ∧ True) ∧ True ∧ True ∧ True) ∧ (True ∧ (GOk gD ∧ QYrwP_20 x5 ∧ (∃ (x8 : List Int), QYrwP_10 x8 ∧ W32 x8) ∧ D8.Ok (D8.mk (0 : Int) (0 : Int) (0 : Int) (0 : Int) (0 :
Int) (0 : Int) (0 : Int) (0 : Int)) ∧ nat_lit 0 ≤ 1000) ∧ (∀ (x9 : PX) (x10 : GX) (x11 : List Int), PH x5 x9 → GH gD x10 → QYrwP_10 x11 → ∃ (x12 : PsX), doX x10 (PsX.mk x9 x5.4
x5.5 x5.6 x5.7 x5.8) (Int.ofNat 0) (MX.mk false x11 (D8.mk (0 : Int) (0 : Int) (0 : Int) (0 : Int) (0 : Int) (0 : Int) (0 : Int) (0 : Int))) = Except.ok x12)) ∧ ((0 = 0 ∧ (Z4 x5.1
∧ Z4 x5.2 ∧ Z4 x5.3 ∧ ZR x5) ∧ Int.ofNat 0 = (0 : Int) ∧ (false = false ∧ (true = true ∧ nat_lit 0 = 0 ∧ nat_lit 0 = 0) ∧ Int.ofNat 0 = (0 : Int) ∧ Int.ofNat 0 = (0 : Int) ∧
Int.ofNat 0 = (0 : Int) ∧ Int.ofNat 0 = (0 : Int) ∧ Int.ofNat 0 = (0 : Int) ∧ Int.ofNat 0 = (0 : Int) ∧ Int.ofNat 0 = (0 : Int) ∧ Int.ofNat 0 = (0 : Int) ∧ True) ∧ True) ∧ QYrwP_15
x5) ∧ (∀ (x13 : PA), (∀ (x14 : PX) (x15 : GX) (x16 : List Int), PH x5 x14 → GH gD x15 → QYrwP_10 x16 → ∃ (x17 : PX), PH x13 x17 ∧ doX x15 (PsX.mk x14 x5.4 x5.5 x5.6 x5.7 x5.8)
(Int.ofNat 0) (MX.mk false x16 (D8.mk (0 : Int) (0 : Int) (0 : Int) (0 : Int) (0 : Int) (0 : Int) (0 : Int) (0 : Int))) = Except.ok (PsX.mk x17 x13.4 x13.5 x13.6 x13.7 x13.8)) →
(QYrwP_14 x13 ∧ ((0 = 0 ∧ (Z4 x13.1 ∧ Z4 x13.2 ∧ Z4 x13.3 ∧ ZR x13) ∧ True) ∧ QYrwP_11 x13) ∧ (∀ (x21 : KI), QYrwP_19 x13 x21.1 → (x21.1 ≠ 1 → (∃ (_ : Unit), True ∧ true = false ∧
True)) ∧ (¬(x21.1 ≠ 1) → ∃ (x26 : RS), (xyOf a x26 ∧ isAt x26.3 (sR1 x26.1 x26.2)) ∧ (a.1 = a.1 ∧ a.2 = a.2 ∧ a.3 = a.3 ∧ 0 = 0 ∧ 0 = 0 ∧ 0 = 0 ∧ 0 = 0 ∧ True) ∧ (QYrwP_13 ∧ ZF sD
∧ ZF cD ∧ QYrwP_6 ∧ ZF fD ∧ QYrwP_27 ∧ ZF w0D ∧ ZF w1D ∧ ZF w2D ∧ ZF w3D ∧ ZF w4D ∧ QYrwP_22 x26.1 a.1 ∧ QYrwP_22 x26.2 a.2 ∧ QYrwP_9 x26.3 x13) ∧ True)) ∧ True) ∧ ∀ (x27 : RS),
xyOf a x27 ∧ isAt x27.3 (sR1 x27.1 x27.2) → (True ∧ (∃ (x28 : PX), PH x27.3 x28) ∧ QYrwP_30 x27.3) ∧ ((QYrwP_31 x27.3 ∧ True) ∧ ZF x27.3.1.5 ∧ ZF x27.3.2.5 ∧ ZF x27.3.3.5 ∧ True) ∧
(∀ (x29 : PB), (∀ (x30 : PX), PH x27.3 x30 → QYrwP_18 x27.3 x29 x30) → ∀ (x31 : Int), x31 = IntKind.wrap .u64 (a.2 + a.1) → ((3 : Int) ≠ (0 : Int) ∧ (∀ (x32 : Int), x32 = Int.tmod
a.3 (3 : Int) → (x32 = (1 : Int) → (True ∧ (GOk gD ∧ QYrwP_20 x27.3 ∧ (∀ (x34 : PX) (x35 : GX), PH x27.3 x34 → GH gD x35 → checkX x35 (PsX.mk x34 x27.3.4 x27.3.5 x27.3.6 x27.3.7
x27.3.8) = (0 : Int) → (0 : Int) ≤ Int.ofNat 1 ∧ Int.ofNat 1 < (↑x35.1 : Int) → (silM x35 (PsX.mk x34 x27.3.4 x27.3.5 x27.3.6 x27.3.7 x27.3.8) (Int.ofNat 1)).3 ≠ (2 : Int))) ∧ (∀
(x36 : PX) (x37 : GX), PH x27.3 x36 → GH gD x37 → ∃ (x38 : PsX), silX x37 (PsX.mk x36 x27.3.4 x27.3.5 x27.3.6 x27.3.7 x27.3.8) (Int.ofNat 1) = Except.ok x38)) ∧ ((0 = 0 ∧ QYrwP_31
x27.3 ∧ Int.ofNat 1 = (1 : Int) ∧ True) ∧ QYrwP_11 x27.3) ∧ (∀ (x39 : PA), (∀ (x40 : PX) (x41 : GX), PH x27.3 x40 → GH gD x41 → ∃ (x42 : PX), PH x39 x42 ∧ silX x41 (PsX.mk x40
x27.3.4 x27.3.5 x27.3.6 x27.3.7 x27.3.8) (Int.ofNat 1) = Except.ok (PsX.mk x42 x39.4 x39.5 x39.6 x39.7 x39.8)) → ∃ (x43 : RS), (xyOf a x43 ∧ x43.4 = 0 ∧ midR a x43) ∧ (a.1 = a.1 ∧
a.2 = a.2 ∧ a.3 = a.3 ∧ QYrwP_35 x43 a.1) ∧ QYrwP_1 x43 x27 x39) ∧ True) ∧ (¬(x32 = (1 : Int)) → (True ∧ GOk gD ∧ QYrwP_20 x27.3 ∧ QYrwP_36 x27.1) ∧ ((0 = 0 ∧ QYrwP_31 x27.3 ∧
Int.ofNat 1 = (1 : Int) ∧ QYrwP_33 x27.1) ∧ QYrwP_15 x27.3) ∧ (∀ (x46 : PA), (∀ (x47 : PX) (x48 : GX) (x49 : List Int), PH x27.3 x47 → GH gD x48 → QYrwP_10 x49 → ∃ (x50 : PX), PH
x46 x50 ∧ doX x48 (PsX.mk x47 x27.3.4 x27.3.5 x27.3.6 x27.3.7 x27.3.8) (Int.ofNat 1) (MX.mk true x49 x27.1) = Except.ok (PsX.mk x50 x46.4 x46.5 x46.6 x46.7 x46.8)) → QYrwP_5 x27
x29 a x31 ∧ QYrwP_4 a) ∧ (∀ (x75 : KI), x75.1 ≠ 0 ∧ (∀ (x76 : PX) (x77 : GX) (x78 : List Int), PH x27.3 x76 → GH gD x77 → QYrwP_10 x78 → doX x77 (PsX.mk x76 x27.3.4 x27.3.5 x27.3.6
x27.3.7 x27.3.8) (Int.ofNat 1) (MX.mk true x78 x27.1) = Except.error x75.1) → ((x75.1 ≠ 29 → QYrwP_5 x27 x29 a x31) ∧ (¬(x75.1 ≠ 29) → (True ∧ ((∃ (x89 : PX), PH x27.3 x89) ∧ (∃
(x90 : PX), QYrwP_18 x27.3 x29 x90)) ∧ QYrwP_30 x27.3 ∧ QYrwP_30 x27.3) ∧ QYrwP_21 x27.3 x29 ∧ (∀ (x91 : BL), QYrwP_29 x27.3 x29 x91.1 → (x91.1 = true → (True ∧ True ∧ True ∧ True
∧ True ∧ True ∧ QYrwP_34) ∧ QYrwP_28 a x31 x27) ∧ (x91.1 = false → (True ∧ True ∧ True ∧ True ∧ True ∧ True ∧ QYrwP_34) ∧ ∃ (_ : Unit), True ∧ true = false ∧ True)) ∧ True)) ∧
QYrwP_4 a) ∧ True))) ∧ ∀ (x110 : RS), xyOf a x110 ∧ x110.4 = 0 ∧ midR a x110 → ((x110.4 ≠ 0 → (∃ (_ : Unit), True ∧ true = false ∧ True)) ∧ (¬(x110.4 ≠ 0) → QYrwP_14 x110.3 ∧ ((0 =
0 ∧ QYrwP_31 x110.3 ∧ True) ∧ QYrwP_11 x110.3) ∧ (∀ (x115 : KI), QYrwP_19 x110.3 x115.1 → (x115.1 ≠ 0 → (∃ (_ : Unit), True ∧ true = false ∧ True)) ∧ (¬(x115.1 ≠ 0) → ∃ (x120 :
RS), (xyOf a x120 ∧ midR a x120) ∧ (a.1 = a.1 ∧ a.2 = a.2 ∧ a.3 = a.3 ∧ 0 = 0 ∧ 0 = 0 ∧ 0 = 0 ∧ 0 = 0 ∧ x120.5 = x110.5 ∧ True) ∧ QYrwP_3 x120 x110)) ∧ True)) ∧ ∀ (x121 : RS), xyOf
a x121 ∧ midR a x121 → ((3 : Int) ≠ (0 : Int) ∧ (∀ (x122 : Int), x122 = Int.tmod a.3 (3 : Int) → (x122 = (2 : Int) → (True ∧ (GOk gD ∧ QYrwP_20 x121.3 ∧ (∀ (x124 : PX) (x125 : GX),
PH x121.3 x124 → GH gD x125 → checkX x125 (PsX.mk x124 x121.3.4 x121.3.5 x121.3.6 x121.3.7 x121.3.8) = (0 : Int) → (0 : Int) ≤ Int.ofNat 0 ∧ Int.ofNat 0 < (↑x125.1 : Int) → (silM
x125 (PsX.mk x124 x121.3.4 x121.3.5 x121.3.6 x121.3.7 x121.3.8) (Int.ofNat 0)).3 ≠ (2 : Int))) ∧ (∀ (x126 : PX) (x127 : GX), PH x121.3 x126 → GH gD x127 → ∃ (x128 : PsX), silX x127
(PsX.mk x126 x121.3.4 x121.3.5 x121.3.6 x121.3.7 x121.3.8) (Int.ofNat 0) = Except.ok x128)) ∧ ((0 = 0 ∧ QYrwP_31 x121.3 ∧ Int.ofNat 0 = (0 : Int) ∧ True) ∧ QYrwP_11 x121.3) ∧ (∀
(x129 : PA), (∀ (x130 : PX) (x131 : GX), PH x121.3 x130 → GH gD x131 → ∃ (x132 : PX), PH x129 x132 ∧ silX x131 (PsX.mk x130 x121.3.4 x121.3.5 x121.3.6 x121.3.7 x121.3.8) (Int.ofNat
0) = Except.ok (PsX.mk x132 x129.4 x129.5 x129.6 x129.7 x129.8)) → ∃ (x133 : RS), QYrwP_32 x133 ∧ (a.1 = a.1 ∧ a.2 = a.2 ∧ a.3 = a.3 ∧ QYrwP_35 x133 a.2) ∧ QYrwP_1 x133 x121 x129)
∧ True) ∧ (¬(x122 = (2 : Int)) → (True ∧ GOk gD ∧ QYrwP_20 x121.3 ∧ QYrwP_36 x121.1) ∧ ((0 = 0 ∧ QYrwP_31 x121.3 ∧ Int.ofNat 0 = (0 : Int) ∧ QYrwP_33 x121.1) ∧ QYrwP_15 x121.3) ∧
(∀ (x136 : PA), (∀ (x137 : PX) (x138 : GX) (x139 : List Int), PH x121.3 x137 → GH gD x138 → QYrwP_10 x139 → ∃ (x140 : PX), PH x136 x140 ∧ doX x138 (PsX.mk x137 x121.3.4 x121.3.5
x121.3.6 x121.3.7 x121.3.8) (Int.ofNat 0) (MX.mk true x139 x121.1) = Except.ok (PsX.mk x140 x136.4 x136.5 x136.6 x136.7 x136.8)) → ∃ (x141 : RS), QYrwP_32 x141 ∧ (a.1 = a.1 ∧ a.2 =
a.2 ∧ a.3 = a.3 ∧ QYrwP_35 x141 x121.5) ∧ QYrwP_1 x141 x121 x136) ∧ (∀ (x142 : KI), x142.1 ≠ 0 ∧ (∀ (x143 : PX) (x144 : GX) (x145 : List Int), PH x121.3 x143 → GH gD x144 →
QYrwP_10 x145 → doX x144 (PsX.mk x143 x121.3.4 x121.3.5 x121.3.6 x121.3.7 x121.3.8) (Int.ofNat 0) (MX.mk true x145 x121.1) = Except.error x142.1) → ∃ (x146 : RS), QYrwP_32 x146 ∧
QYrwP_8 a x146 x142.1 x121) ∧ True))) ∧ ∀ (x147 : RS), QYrwP_32 x147 → (True ∧ True) ∧ (True ∧ QYrwP_23) ∧ (∀ (_ : Unit), True → (x147.4 = 0 → (x147.3.4 = 0 ∧ x147.3.5 = 0 ∧
x147.3.6 = 0 ∧ x147.3.7 = 0 ∧ x147.3.8 = 0 ∧ True → (∀ (x149 : Int), x149 = (↑x147.3.1.3 : Int) → (x149 = (2 : Int) → ((0 : Int) ≤ (1 : Int) ∧ (1 : Int) < (↑x147.3.1.3 : Int)) ∧ (∀
(x150 : Nat), x150 = x147.3.1.2 + 1 → ∃ (x151 : Int), Rd x147.3.1.5 (Nat.add x150 0) (Value.int IntKind.i32 x151) ∧ (6 : Int) ≠ (0 : Int) ∧ ∀ (x152 : Int), x152 = Int.tmod x147.5
(6 : Int) → ∀ (x153 : Int), x153 = IntKind.wrap .u64 ((1 : Int) + x152) → ∀ (x154 : Int), x154 = IntKind.wrap .i32 x153 → (x151 = x154 → QYrwP_14 x147.3 ∧ ((0 = 0 ∧ QYrwP_31 x147.3
∧ True) ∧ QYrwP_11 x147.3) ∧ (∀ (x158 : KI), QYrwP_19 x147.3 x158.1 → (x158.1 = -1 → (∃ (_ : Unit), True ∧ true = true ∧ True)) ∧ (¬(x158.1 = -1) → ∃ (_ : Unit), True ∧ true =
false ∧ True)) ∧ True) ∧ (¬(x151 = x154) → ∃ (_ : Unit), True ∧ true = false ∧ True))) ∧ (¬(x149 = (2 : Int)) → ∃ (_ : Unit), True ∧ true = false ∧ True))) ∧ (¬(x147.3.4 = 0 ∧
x147.3.5 = 0 ∧ x147.3.6 = 0 ∧ x147.3.7 = 0 ∧ x147.3.8 = 0 ∧ True) → (∃ (_ : Unit), True ∧ true = false ∧ True))) ∧ (¬(x147.4 = 0) → ∃ (_ : Unit), True ∧ true = false ∧ True)) ∧
True) ∧ True) ∧ True) ∧ True) ∧ True) ∧ True) ∧ True) ∧ True) ∧ True) := by kernel_rfl
end
structure OkS (s : PsX) : Prop where
  v : W32 s.x.vars
  b : Byts8 s.x.tips
  l1 : s.x.vars.length ≤ 100
  l2 : s.x.gone.length ≤ 100
  l3 : s.x.tips.length ≤ 100
  r0 : 0 ≤ s.r0 ∧ s.r0 ≤ 100
  r1 : 0 ≤ s.r1 ∧ s.r1 ≤ 100
  r2 : 0 ≤ s.r2 ∧ s.r2 ≤ 100
  r3 : 0 ≤ s.r3 ∧ s.r3 ≤ 100
  r4 : 0 ≤ s.r4 ∧ s.r4 < 18446744073709551616
theorem pre_do {p : PA} {s : PsX} (h : isAt p s) (o : OkS s) : (∃ z, PH p z ∧ PW p z ∧ Byts8 z.tips) ∧ p.s1.l ≤ 1000 ∧ p.s2.l ≤ 1000 ∧ p.s3.l ≤ 1000 := by
  obtain ⟨z, hz, e⟩ := h
  subst e
  have n1 : z.vars.length = p.s1.l * 1 := hz.p1.len
  have n2 : z.gone.length = p.s2.l * 1 := hz.p2.len
  have n3 : z.tips.length = p.s3.l * 8 := hz.p3.len
  have m1 : z.vars.length ≤ 100 := o.l1
  have m2 : z.gone.length ≤ 100 := o.l2
  have m3 : z.tips.length ≤ 100 := o.l3
  have k0 : 0 ≤ p.r0 ∧ p.r0 ≤ 100 := o.r0
  have k1 : 0 ≤ p.r1 ∧ p.r1 ≤ 100 := o.r1
  have k2 : 0 ≤ p.r2 ∧ p.r2 ≤ 100 := o.r2
  have k3 : 0 ≤ p.r3 ∧ p.r3 ≤ 100 := o.r3
  exact ⟨⟨z, hz, ⟨o.v, by omega, by omega, by omega, by omega, o.r4⟩, o.b⟩, by omega, by omega, by omega⟩
theorem pre_turn {p : PA} {s : PsX} (h : isAt p s) (hv : W32 s.x.vars) (hl : s.x.vars.length ≤ 1000) : (gmF gD ∧ cdP codD ∧ (0 : Int) ≤ Int.ofNat 16 ∧ p.s1.l ≤ 1000) ∧ (∃ z, PH p z ∧ W32 z.vars) ∧ (∃ cs, cellsOf gD cs) ∧ ∃ ws, codeOf codD.i1 ws := by
  obtain ⟨z, hz, e⟩ := h
  subst e
  have n1 : z.vars.length = p.s1.l * 1 := hz.p1.len
  have hl : z.vars.length ≤ 1000 := hl
  exact ⟨⟨gokD.f, gokD.c, by decide, by omega⟩, ⟨z, hz, hv⟩, ⟨_, ghD.cells⟩, _, ghD.w1⟩
theorem turn_is {p : PA} {s : PsX} {k : Int} (h : isAt p s) (hk : ∀ z cs ws, PH p z → cellsOf gD cs → codeOf codD.i1 ws → k = turnC ⟨gD, p⟩ z cs ws) : k = turnX XD s := by
  obtain ⟨z, hz, e⟩ := h
  rw [hk z _ _ hz ghD.cells ghD.w1, turnX_eq (a := ⟨gD, p⟩) gokD hz ghD, e]
theorem do_is {p q : PA} {s s' : PsX} {k : Int} {t : Bool} {d : D8} (h : isAt p s) (hm : doX XD s k ⟨t, [], d⟩ = .ok s')
    (hq : ∀ z X gs, PH p z → GH gD X → Sli (Value.int .i32) 1 true 0 0 0 [] gs → ∃ y, PH q y ∧ doX X (p.ps z) k ⟨t, gs, d⟩ = .ok (q.ps y)) : isAt q s' := by
  obtain ⟨z, hz, e⟩ := h
  obtain ⟨y, hy, e2⟩ := hq z XD [] hz ghD .none
  rw [e, hm] at e2
  exact ⟨y, hy, (Except.ok.inj e2).symm⟩
theorem do_pre {p : PA} {s s' : PsX} {k : Int} {t : Bool} {d : D8} (h : isAt p s) (hm : doX XD s k ⟨t, [], d⟩ = .ok s') : ∀ z X gs, PH p z → GH gD X → Sli (Value.int .i32) 1 true 0 0 0 [] gs → ∃ s, doX X (p.ps z) k ⟨t, gs, d⟩ = .ok s := fun z X gs hz hX hg => by
  obtain ⟨w, hw, e⟩ := h
  obtain rfl := PH.uniq hw hz
  obtain rfl := GH.uniq ghD hX
  obtain rfl := Sli.uniqI hg .none
  exact ⟨_, by rw [e]; exact hm⟩
theorem sil_has {p : PA} {s s' : PsX} {k : Int} (h : isAt p s) (hm : silX XD s k = .ok s') : ∀ z X, PH p z → GH gD X → ∃ s, silX X (p.ps z) k = .ok s := fun z X hz hX => by
  obtain ⟨w, hw, e⟩ := h
  obtain rfl := PH.uniq hw hz
  obtain rfl := GH.uniq ghD hX
  exact ⟨_, by rw [e]; exact hm⟩
theorem do_no {p : PA} {s s' : PsX} {k n : Int} {t : Bool} {d : D8} (h : isAt p s) (hm : doX XD s k ⟨t, [], d⟩ = .ok s')
    (hq : n ≠ 0 ∧ ∀ z X gs, PH p z → GH gD X → Sli (Value.int .i32) 1 true 0 0 0 [] gs → doX X (p.ps z) k ⟨t, gs, d⟩ = .error n) : False := by
  obtain ⟨z, hz, e⟩ := h
  have e2 := hq.2 z XD [] hz ghD .none
  rw [e, hm] at e2
  exact nomatch e2
theorem do_err {p : PA} {s : PsX} {k n : Int} {t : Bool} {d : D8} (h : isAt p s)
    (hq : n ≠ 0 ∧ ∀ z X gs, PH p z → GH gD X → Sli (Value.int .i32) 1 true 0 0 0 [] gs → doX X (p.ps z) k ⟨t, gs, d⟩ = .error n) : doX XD s k ⟨t, [], d⟩ = .error n := by
  obtain ⟨z, hz, e⟩ := h
  have e2 := hq.2 z XD [] hz ghD .none
  rw [e] at e2
  exact e2
theorem sil_is {p q : PA} {s s' : PsX} {k : Int} (h : isAt p s) (hm : silX XD s k = .ok s')
    (hq : ∀ z X, PH p z → GH gD X → ∃ y, PH q y ∧ silX X (p.ps z) k = .ok (q.ps y)) : isAt q s' := by
  obtain ⟨z, hz, e⟩ := h
  obtain ⟨y, hy, e2⟩ := hq z XD hz ghD
  rw [e, hm] at e2
  exact ⟨y, hy, (Except.ok.inj e2).symm⟩
theorem sil_pre {p : PA} {s : PsX} {k : Int} (h : isAt p s) (hm : (silM XD s k).halt ≠ 2) : ∀ z X, PH p z → GH gD X → checkX X (p.ps z) = 0 → 0 ≤ k ∧ k < (X.ns : Int) → (silM X (p.ps z) k).halt ≠ 2 := fun z X hz hX _ _ => by
  obtain ⟨w, hw, e⟩ := h
  have e1 := PH.uniq hw hz
  subst e1
  have e2 := GH.uniq ghD hX
  subst e2
  rw [e]; exact hm
theorem isAt.flat {p : PA} {s : PsX} (h : isAt p s) : FlatL p.s1.c ∧ FlatL p.s2.c ∧ FlatL p.s3.c := by
  obtain ⟨z, hz, -⟩ := h
  exact ⟨hz.p1.flat, hz.p2.flat, hz.p3.flat⟩
theorem byts_l {d : D8} (h : d.Ok) : Byts8 d.l := fun b hb => by
  obtain ⟨h0, h1, h2, h3, h4, h5, h6, h7⟩ := h
  unfold byt at *
  unfold D8.l at hb
  simp only [List.mem_cons, List.not_mem_nil, or_false] at hb
  rcases hb with h | h | h | h | h | h | h | h <;> subst h <;> assumption
theorem byts_app {x y : List Int} (h : Byts8 x) (g : Byts8 y) : Byts8 (x ++ y) := fun b hb => by
  rcases List.mem_append.1 hb with q | q
  · exact h b q
  · exact g b q
theorem w2 {u v : Int} (hu : 0 ≤ u ∧ u ≤ 1000) (hv : 0 ≤ v ∧ v ≤ 1000) : W32 [u, v] := fun x hx => by
  simp only [List.mem_cons, List.not_mem_nil, or_false] at hx
  rcases hx with h | h <;> subst h <;> omega
theorem okS_of {u v : Int} {g : List Bool} {t : List Int} {r0 r1 r2 r3 r4 : Int} (hu : 0 ≤ u ∧ u ≤ 1000) (hv : 0 ≤ v ∧ v ≤ 1000) (hb : Byts8 t) (hg : g.length ≤ 100) (ht : t.length ≤ 100)
    (h0 : 0 ≤ r0 ∧ r0 ≤ 100) (h1 : 0 ≤ r1 ∧ r1 ≤ 100) (h2 : 0 ≤ r2 ∧ r2 ≤ 100) (h3 : 0 ≤ r3 ∧ r3 ≤ 100) (h4 : 0 ≤ r4 ∧ r4 < 18446744073709551616) : OkS ⟨⟨[u, v], g, t⟩, r0, r1, r2, r3, r4⟩ :=
  ⟨w2 hu hv, hb, (show 2 ≤ 100 by decide), hg, ht, h0, h1, h2, h3, h4⟩
theorem byts_t2 (x y : D8) : Byts8 (tips2 x y) := byts_app (byts_l (oneC_ok x)) (byts_l (oneC_ok y))
theorem okS_0 (x y : D8) : OkS ⟨⟨[0, 0], [false, false], tips2 x y⟩, 0, 0, 0, 0, 0⟩ :=
  okS_of (by decide) (by decide) (byts_t2 x y) (by decide) (Nat.le_of_ble_eq_true rfl) (by decide) (by decide) (by decide) (by decide) (by decide)
theorem okS_1 (x y : D8) : OkS (sR1 x y) :=
  okS_of (u := 1) (v := 0) (by decide) (by decide) (byts_t2 x y) (by decide) (Nat.le_of_ble_eq_true rfl) (by decide) (by decide) (by decide) (by decide) (by decide)
theorem okS_A (x y : D8) : OkS (sRA x y) :=
  okS_of (u := 1) (v := 0) (by decide) (by decide) (byts_t2 x y) (by decide) (Nat.le_of_ble_eq_true rfl) (by decide) (by decide) (by decide) (by decide) (by decide)
theorem okS_B (x y : D8) {b : Int} (hy : y.Ok) (hb : 0 ≤ b ∧ b < 18446744073709551616) : OkS (sRB x y b) :=
  okS_of (u := 1) (v := 0) (by decide) (by decide) (show Byts8 ((oneC x).l ++ y.l) from byts_app (byts_l (oneC_ok x)) (byts_l hy)) (by decide) (Nat.le_of_ble_eq_true rfl) (by decide) (by decide) (by decide) (by decide) hb
theorem do_w (x y t : D8) : doX XD (sR1 x y) 1 ⟨true, [], t⟩ = if (oneC t).l ≠ (oneC y).l then .error 29 else .ok (passX XD (shownX (sR1 x y) 1 t) 1) := by
  have hz : ¬ zR (sR1 x y) := fun q => absurd (show (1 : Int) = 0 from q.1) (by decide)
  rw [do_rest (chkR1 x y) (by rw [turnR1]; decide) (turnR1 x y)]
  show (if true ≠ decide (¬ zR _) then _ else if zR _ then _ else if (oneC t).l ≠ (tipX (sR1 x y) 1).l then _ else _) = _
  rw [decide_eq_true hz, if_neg (not_not_intro rfl), if_neg hz, chk_tip0]
  rfl
theorem same_is {p q : PA} {s : PsX} {b : Bool} (h : isAt p s) (hc : ∀ z, PH p z → PH q z) (hr : RollsEq p q) (hb : ∀ z w, PH p z → PH q w → (b = true ↔ z = w ∧ RollsEq p q)) : b = true := by
  obtain ⟨z, hz, -⟩ := h
  exact (hb z z hz (hc z hz)).2 ⟨rfl, hr⟩
theorem isAt.ph {p : PA} {s : PsX} (h : isAt p s) : ∃ z, PH p z := by
  obtain ⟨z, hz, -⟩ := h
  exact ⟨z, hz⟩
theorem l_eq {x y : D8} (h : x.l = y.l) : x.d0 = y.d0 ∧ x.d1 = y.d1 ∧ x.d2 = y.d2 ∧ x.d3 = y.d3 ∧ x.d4 = y.d4 ∧ x.d5 = y.d5 ∧ x.d6 = y.d6 ∧ x.d7 = y.d7 ∧ True := by
  unfold D8.l at h
  simp only [List.cons.injEq, and_true] at h
  obtain ⟨h0, h1, h2, h3, h4, h5, h6, h7⟩ := h
  exact ⟨h0, h1, h2, h3, h4, h5, h6, h7, trivial⟩
theorem z8_ok : (⟨0, 0, 0, 0, 0, 0, 0, 0⟩ : D8).Ok := by refine ⟨?_, ?_, ?_, ?_, ?_, ?_, ?_, ?_⟩ <;> (unfold byt; decide)
theorem do_some {p q : PA} {s : PsX} {k : Int} {t : Bool} {d : D8} (h : isAt p s)
    (hq : ∀ z X gs, PH p z → GH gD X → Sli (Value.int .i32) 1 true 0 0 0 [] gs → ∃ y, PH q y ∧ doX X (p.ps z) k ⟨t, gs, d⟩ = .ok (q.ps y)) : ∃ s', doX XD s k ⟨t, [], d⟩ = .ok s' := by
  obtain ⟨z, hz, e⟩ := h
  obtain ⟨y, hy, e2⟩ := hq z XD [] hz ghD .none
  rw [e] at e2
  exact ⟨_, e2⟩
theorem w_ok {x y t : D8} {s : PsX} (h : doX XD (sR1 x y) 1 ⟨true, [], t⟩ = .ok s) : (oneC t).l = (oneC y).l := by
  rw [do_w] at h
  by_cases e : (oneC t).l = (oneC y).l
  · exact e
  · rw [if_pos e] at h; exact nomatch h
theorem w_err {x y t : D8} {n : Int} (h : doX XD (sR1 x y) 1 ⟨true, [], t⟩ = .error n) : n = 29 := by
  rw [do_w] at h
  by_cases e : (oneC t).l = (oneC y).l
  · rw [if_neg (not_not_intro e)] at h; exact nomatch h
  · rw [if_pos e] at h; exact (Except.error.inj h).symm
theorem mid_do {a : RL} {r : RS} (ha : 0 ≤ a.a ∧ a.a < 18446744073709551616) (hb : 0 ≤ a.b ∧ a.b < 18446744073709551616) (hxy : xyOf a r) (hm : midR a r) :
    ∃ s g t, isAt r.p s ∧ OkS s ∧ turnX XD s = 0 ∧ doX XD s 0 ⟨true, [], r.x⟩ = .ok ⟨⟨[1, 1 + r.u % 6], g, t⟩, 0, 0, 0, 0, 0⟩ ∧ g.length = 2 ∧ t.length = 16 ∧ (0 ≤ r.u ∧ r.u < 18446744073709551616) := by
  obtain ⟨hx, hy⟩ := hxy
  rcases hm with ⟨-, h, hu⟩ | ⟨-, h, hu⟩
  · exact ⟨_, _, _, h, okS_A _ _, turnRA _ _, do3 (g := [false, true]) (t := tips2 r.x r.y) (chkRA r.x r.y) rfl hx ha.1 ha.2 (by rw [hu, Int.zero_add, wrap_u64]; omega), rfl, rfl, by rw [hu]; exact ha⟩
  · have hyo : r.y.Ok := by rw [hy]; exact frm_okZ _
    exact ⟨_, _, _, h, okS_B _ _ hyo hb, turnRB _ _ _, do3 (g := [false, false]) (t := putTip (tips2 r.x r.y) 1 r.y.l) (chkRB r.x r.y a.b) rfl hx ha.1 ha.2 hu, rfl, rfl, by rw [hu, wrap_u64]; omega⟩
theorem mid_sil {a : RL} {r : RS} (hb : 0 ≤ a.b ∧ a.b < 18446744073709551616) (hxy : xyOf a r) (hm : midR a r) (h2 : a.q % 3 = 2) :
    ∃ s g t, isAt r.p s ∧ OkS s ∧ (silM XD s 0).halt ≠ 2 ∧ silX XD s 0 = .ok ⟨⟨[1, 1 + a.b % 6], g, t⟩, 0, 0, 0, 0, 0⟩ ∧ g.length = 2 ∧ t.length = 16 := by
  obtain ⟨hx, hy⟩ := hxy
  rcases hm with ⟨h, -⟩ | ⟨-, h, -⟩
  · omega
  · have hyo : r.y.Ok := by rw [hy]; exact frm_okZ _
    exact ⟨_, _, _, h, okS_B _ _ hyo hb, sil3_no _ _ _, sil3 r.x r.y hb.1, rfl, rfl⟩
set_option maxHeartbeats 1600000 in
theorem g_rolls (a : RL) (ha : 0 ≤ a.a ∧ a.a < 18446744073709551616) (hb : 0 ≤ a.b ∧ a.b < 18446744073709551616) (hq : 0 ≤ a.q ∧ a.q < 256) : GW (G_rolls a) := by
  have q1 : FlatL sD := ghD.stakes.flat
  have q2 : FlatL cD := ghD.cells.flat
  have q3 : FlatL fD := ghD.first.flat
  have q4 : FlatL w0D := ghD.w0.flat
  have q5 : FlatL w1D := ghD.w1.flat
  have q6 : FlatL w2D := ghD.w2.flat
  have q7 : FlatL w3D := ghD.w3.flat
  have q8 : FlatL w4D := ghD.w4.flat
  have q9 := flatL_nil
  have gl1 : FlatL cells1 := flatAll (by kernel_rfl)
  have gl2 : FlatL cells2 := flatAll (by kernel_rfl)
  have gl3 : FlatL cells3 := flatAll (by kernel_rfl)
  have gl4 : FlatL cells4 := flatAll (by kernel_rfl)
  have gl6 : FlatL cells6 := flatAll (by kernel_rfl)
  have gl7 : FlatL cells7 := flatAll (by kernel_rfl)
  have gl8 : FlatL cells8 := flatAll (by kernel_rfl)
  have gl9 : FlatL cells9 := flatAll (by kernel_rfl)
  have gl11 : FlatL cells11 := flatAll (by kernel_rfl)
  have fo := opsFlat
  have H32 : ∃ l : List Int, Sli (Value.int .i32) 1 true 0 0 0 [] l ∧ W32 l := ⟨[], .none, fun _ h => nomatch h⟩
  have tm : a.q.tmod 3 = a.q % 3 := Int.tmod_eq_emod_of_nonneg hq.1
  have K0 : (0 : Nat) ≤ 1000 := by decide
  refine ⟨?_⟩
  rw [vc_rolls]
  refine ⟨by (repeat' first | with_reducible apply And.intro | exact trivial | exact rfl | assumption), ⟨⟨by kernel_rfl, by (repeat' first | with_reducible apply And.intro | exact trivial | exact rfl | assumption)⟩, by (repeat' first | with_reducible apply And.intro | exact trivial | exact rfl | assumption)⟩, fun x0 _ => ⟨⟨trivial, ha, trivial⟩, by (repeat' first | with_reducible apply And.intro | exact trivial | exact rfl | assumption), fun x1 _ => ⟨⟨trivial, hb, trivial⟩, by (repeat' first | with_reducible apply And.intro | exact trivial | exact rfl | assumption), fun x2 _ => ⟨⟨trivial, frm_okZ a.a⟩, by (repeat' first | with_reducible apply And.intro | exact trivial | exact rfl | assumption), fun x3 h3 => ⟨⟨trivial, frm_okZ a.b⟩, by (repeat' first | with_reducible apply And.intro | exact trivial | exact rfl | assumption), fun x4 h4 => ⟨by (repeat' first | with_reducible apply And.intro | exact trivial | exact rfl | assumption), by (repeat' first | with_reducible apply And.intro | exact trivial | exact rfl | assumption), fun x5 h5 => ?_, trivial⟩, trivial⟩, trivial⟩, trivial⟩, trivial⟩, trivial⟩
  subst h3 h4
  have h5 : isAt x5 ⟨⟨[0, 0], [false, false], tips2 (frm a.a) (frm a.b)⟩, 0, 0, 0, 0, 0⟩ := h5
  obtain ⟨f1, f2, f3⟩ := h5.flat
  refine ⟨by (repeat' first | with_reducible apply And.intro | exact trivial | exact rfl | assumption), ⟨trivial, ⟨gokD, pre_do h5 (okS_0 _ _), H32, z8_ok, K0⟩, do_pre h5 (do1 _ _)⟩, by (repeat' first | with_reducible apply And.intro | exact trivial | exact rfl | assumption), fun x9 h9 => ?_, trivial⟩
  have h9 : isAt x9 (sR1 (frm a.a) (frm a.b)) := do_is h5 (do1 _ _) h9
  obtain ⟨g1, g2, g3⟩ := h9.flat
  refine ⟨⟨⟨trivial, pre_turn h9 (okS_1 _ _).v (show 2 ≤ 1000 by decide)⟩, by (repeat' first | with_reducible apply And.intro | exact trivial | exact rfl | assumption), fun x17 h17 => ?_, trivial⟩, fun x23 h23 => ?_⟩
  · have e : x17.k = 1 := (turn_is h9 h17).trans (turnR1 _ _)
    refine ⟨fun h => absurd e h, fun _ => ⟨⟨frm a.a, frm a.b, x9, 0, 0⟩, ⟨⟨rfl, rfl⟩, h9⟩, ?_⟩⟩
    repeat' first | with_reducible apply And.intro | exact trivial | exact rfl | assumption
  obtain ⟨hxy, h23⟩ := h23
  obtain ⟨r1, r2, r3⟩ := h23.flat
  have pd := pre_do h23 (okS_1 _ _)
  have okx : x23.x.Ok := by rw [hxy.1]; exact frm_okZ _
  have oky : x23.y.Ok := by rw [hxy.2]; exact frm_okZ _
  refine ⟨⟨trivial, h23.ph, pd.2⟩, by (repeat' first | with_reducible apply And.intro | exact trivial | exact rfl | assumption), fun x25 h25 x27 h27 => ⟨⟨by decide, fun x28 h28 => ⟨fun k => ?_, fun k => ?_⟩⟩, fun x107 h107 => ?_⟩, trivial⟩
  · have hq1 : a.q % 3 = 1 := by rw [← tm]; exact h28.symm.trans k
    refine ⟨⟨trivial, ⟨gokD, pd, sil_pre (k := 1) h23 (sil2_no _ _)⟩, sil_has (k := 1) h23 (sil2 _ _)⟩, by (repeat' first | with_reducible apply And.intro | exact trivial | exact rfl | assumption), fun x32 h32 => ?_, by (repeat' first | with_reducible apply And.intro | exact trivial | exact rfl | assumption)⟩
    have h32 : isAt x32 (sRA x23.x x23.y) := sil_is h23 (sil2 _ _) h32
    obtain ⟨s1, s2, s3⟩ := h32.flat
    refine ⟨⟨x23.x, x23.y, x32, 0, a.a⟩, ⟨hxy, rfl, .inl ⟨hq1, h32, rfl⟩⟩, ?_⟩
    repeat' first | with_reducible apply And.intro | exact trivial | exact rfl | assumption
  · have hq1 : a.q % 3 ≠ 1 := fun q => k (by rw [h28]; exact tm.trans q)
    obtain ⟨y1, y2, y3⟩ : FlatL x25.b1.c ∧ FlatL x25.b2.c ∧ FlatL x25.b3.c := by
      obtain ⟨z, hz⟩ := h23.ph
      exact ⟨(h25 z hz).p1.flat, (h25 z hz).p2.flat, (h25 z hz).p3.flat⟩
    have SM : ∀ b : Bool, (∀ z w, PH x23.p z → PH _ w → (b = true ↔ z = w ∧ RollsEq x23.p _)) → b = true := fun b hb => same_is h23 h25 ⟨rfl, rfl, rfl, rfl, rfl⟩ hb
    refine ⟨⟨trivial, gokD, pd, H32, okx, K0⟩, by (repeat' first | with_reducible apply And.intro | exact trivial | exact rfl | assumption), fun x43 h43 => ⟨⟨⟨trivial, okx⟩, by (repeat' first | with_reducible apply And.intro | exact trivial | exact rfl | assumption), fun x48 h48 => ⟨⟨trivial, oky⟩, by (repeat' first | with_reducible apply And.intro | exact trivial | exact rfl | assumption), fun x49 h49 => ?_, trivial⟩, trivial⟩, fun x58 h58 => ?_⟩, fun x72 h72 => ?_, by (repeat' first | with_reducible apply And.intro | exact trivial | exact rfl | assumption)⟩
    · obtain ⟨s', hs'⟩ := do_some h23 h43
      have hl := w_ok hs'
      subst h48 h49
      refine ⟨fun n => absurd (l_eq hl) n, fun _ => ⟨⟨trivial, ⟨h23.ph, h23.ph.imp fun z hz => h25 z hz⟩, pd.2, pd.2⟩, by (repeat' first | with_reducible apply And.intro | exact trivial | exact rfl | assumption), fun x53 h53 => ?_, trivial⟩⟩
      have e := SM x53.b h53; exact ⟨fun _ => ⟨by (repeat' first | with_reducible apply And.intro | exact trivial | exact rfl | assumption), ⟨x23.x, x23.y, x23.p, 0, x27⟩, ⟨⟨hxy, h23⟩, h27, hq1⟩, by (repeat' first | with_reducible apply And.intro | exact trivial | exact rfl | assumption)⟩, fun n => nomatch e.symm.trans n⟩
    · obtain ⟨⟨hxy8, h8⟩, hu8, hq8⟩ := h58; have oky8 : x58.y.Ok := (by rw [hxy8.2]; exact frm_okZ _); obtain ⟨s1, s2, s3⟩ := h8.flat; have d2 := do2 x58.x x58.y hxy8.2 hb.1 hb.2; refine ⟨⟨trivial, gokD, pre_do h8 (okS_1 _ _), H32, oky8, K0⟩, by (repeat' first | with_reducible apply And.intro | exact trivial | exact rfl | assumption), fun x61 h61 => ?_, fun x67 h67 => (do_no h8 d2 h67).elim, by (repeat' first | with_reducible apply And.intro | exact trivial | exact rfl | assumption)⟩; have h61 := do_is h8 d2 h61; obtain ⟨v1, v2, v3⟩ := h61.flat; refine ⟨⟨x58.x, x58.y, x61, 0, x58.u⟩, ⟨hxy8, rfl, .inr ⟨hq8, h61, hu8⟩⟩, ?_⟩; repeat' first | with_reducible apply And.intro | exact trivial | exact rfl | assumption
    · have e29 : x72.k = 29 := w_err (do_err h23 h72)
      refine ⟨⟨fun n => absurd e29 n, fun _ => ⟨⟨trivial, ⟨h23.ph, h23.ph.imp fun z hz => h25 z hz⟩, pd.2, pd.2⟩, by (repeat' first | with_reducible apply And.intro | exact trivial | exact rfl | assumption), fun x53 h53 => ?_, trivial⟩⟩, fun x58 h58 => ?_⟩
      · have e := SM x53.b h53; exact ⟨fun _ => ⟨by (repeat' first | with_reducible apply And.intro | exact trivial | exact rfl | assumption), ⟨x23.x, x23.y, x23.p, 0, x27⟩, ⟨⟨hxy, h23⟩, h27, hq1⟩, by (repeat' first | with_reducible apply And.intro | exact trivial | exact rfl | assumption)⟩, fun n => nomatch e.symm.trans n⟩
      · obtain ⟨⟨hxy8, h8⟩, hu8, hq8⟩ := h58; have oky8 : x58.y.Ok := (by rw [hxy8.2]; exact frm_okZ _); obtain ⟨s1, s2, s3⟩ := h8.flat; have d2 := do2 x58.x x58.y hxy8.2 hb.1 hb.2; refine ⟨⟨trivial, gokD, pre_do h8 (okS_1 _ _), H32, oky8, K0⟩, by (repeat' first | with_reducible apply And.intro | exact trivial | exact rfl | assumption), fun x61 h61 => ?_, fun x67 h67 => (do_no h8 d2 h67).elim, by (repeat' first | with_reducible apply And.intro | exact trivial | exact rfl | assumption)⟩; have h61 := do_is h8 d2 h61; obtain ⟨v1, v2, v3⟩ := h61.flat; refine ⟨⟨x58.x, x58.y, x61, 0, x58.u⟩, ⟨hxy8, rfl, .inr ⟨hq8, h61, hu8⟩⟩, ?_⟩; repeat' first | with_reducible apply And.intro | exact trivial | exact rfl | assumption
  obtain ⟨hxy2, he, hm⟩ := h107
  obtain ⟨s, g, t, hat, hS, hT, -⟩ := mid_do ha hb hxy2 hm
  obtain ⟨u1, u2, u3⟩ := hat.flat
  refine ⟨⟨fun n => absurd he n, fun _ => ⟨⟨trivial, pre_turn hat hS.v (Nat.le_trans hS.l1 (by decide))⟩, by (repeat' first | with_reducible apply And.intro | exact trivial | exact rfl | assumption), fun x112 h112 => ?_, by (repeat' first | with_reducible apply And.intro | exact trivial | exact rfl | assumption)⟩⟩, fun x118 h118 => ?_⟩
  · have e : x112.k = 0 := (turn_is hat h112).trans hT
    refine ⟨fun h => absurd e h, fun _ => ⟨⟨x107.x, x107.y, x107.p, 0, x107.u⟩, ⟨hxy2, hm⟩, ?_⟩⟩
    repeat' first | with_reducible apply And.intro | exact trivial | exact rfl | assumption
  clear hat hS hT u1 u2 u3 s g t
  obtain ⟨hxy3, hm3⟩ := h118
  obtain ⟨s, g, t, hat, hS, hT, hdo, hg, ht, hu⟩ := mid_do ha hb hxy3 hm3
  obtain ⟨u1, u2, u3⟩ := hat.flat
  have okx3 : x118.x.Ok := by rw [hxy3.1]; exact frm_okZ _
  refine ⟨⟨by decide, fun x119 h119 => ⟨fun k => ?_, fun k => ?_⟩⟩, fun x145 h145 => ?_⟩
  · have hq2 : a.q % 3 = 2 := by rw [← tm]; exact h119.symm.trans k
    obtain ⟨s', g', t', hat', hS', hno, hsil, hg', ht'⟩ := mid_sil hb hxy3 hm3 hq2
    refine ⟨⟨trivial, ⟨gokD, pre_do hat' hS', sil_pre (k := 0) hat' hno⟩, sil_has (k := 0) hat' hsil⟩, by (repeat' first | with_reducible apply And.intro | exact trivial | exact rfl | assumption), fun x123 h123 => ?_, by (repeat' first | with_reducible apply And.intro | exact trivial | exact rfl | assumption)⟩
    have h123 := sil_is hat' hsil h123
    obtain ⟨v1, v2, v3⟩ := h123.flat
    refine ⟨⟨x118.x, x118.y, x123, 0, a.b⟩, ⟨rfl, hb, g', t', h123, hg', ht'⟩, ?_⟩
    repeat' first | with_reducible apply And.intro | exact trivial | exact rfl | assumption
  · refine ⟨⟨trivial, gokD, pre_do hat hS, H32, okx3, K0⟩, by (repeat' first | with_reducible apply And.intro | exact trivial | exact rfl | assumption), fun x134 h134 => ?_, fun x140 h140 => (do_no hat hdo h140).elim, by (repeat' first | with_reducible apply And.intro | exact trivial | exact rfl | assumption)⟩
    have h134 := do_is hat hdo h134
    obtain ⟨v1, v2, v3⟩ := h134.flat
    refine ⟨⟨x118.x, x118.y, x134, 0, x118.u⟩, ⟨rfl, hu, g, t, h134, hg, ht⟩, ?_⟩
    repeat' first | with_reducible apply And.intro | exact trivial | exact rfl | assumption
  · obtain ⟨he5, hu5, g5, t5, hat5, hg5, ht5⟩ := h145
    obtain ⟨w1, w2', w3⟩ := hat5.flat
    have hat6 := hat5
    obtain ⟨z, hz, e⟩ := hat5
    have e0 : x145.p.r0 = 0 := congrArg PsX.r0 e
    have e1 : x145.p.r1 = 0 := congrArg PsX.r1 e
    have e2 : x145.p.r2 = 0 := congrArg PsX.r2 e
    have e3 : x145.p.r3 = 0 := congrArg PsX.r3 e
    have e4 : x145.p.r4 = 0 := congrArg PsX.r4 e
    have ez : z = ⟨[1, 1 + x145.u % 6], g5, t5⟩ := congrArg PsX.x e
    subst ez
    have hl : 2 = x145.p.s1.l * 1 := hz.p1.len
    have hrd := hz.p1.at_ 1 (1 + x145.u % 6) rfl
    refine ⟨by (repeat' first | with_reducible apply And.intro | exact trivial | exact rfl | assumption), by (repeat' first | with_reducible apply And.intro | exact trivial | exact rfl | assumption), fun x146 _ => ⟨fun _ => ⟨fun _ x147 h147 => ⟨fun _ => ⟨⟨by decide, by omega⟩, fun x148 h148 => ⟨1 + x145.u % 6, by rw [h148]; exact hrd, by decide, fun x150 h150 x151 h151 x152 h152 => ?_⟩⟩, fun n => absurd (show x147 = 2 by omega) n⟩, fun n => absurd ⟨e0, e1, e2, e3, e4, trivial⟩ n⟩, fun n => absurd he5 n⟩, by (repeat' first | with_reducible apply And.intro | exact trivial | exact rfl | assumption)⟩
    have t6 : x150 = x145.u % 6 := h150.trans (tm6 hu5.1)
    have e152 : 1 + x145.u % 6 = x152 := by rw [h152, h151, wrap_u64, t6]; rw [wrap_i32]; omega
    refine ⟨fun _ => ⟨⟨trivial, pre_turn hat6 (w2 (by omega) (by omega)) (show 2 ≤ 1000 by decide)⟩, by (repeat' first | with_reducible apply And.intro | exact trivial | exact rfl | assumption), fun x156 h156 => ?_, by (repeat' first | with_reducible apply And.intro | exact trivial | exact rfl | assumption)⟩, fun n => absurd e152 n⟩
    have e : x156.k = -1 := (turn_is hat6 h156).trans (turn_over (checkD hg5 ht5 (by omega) (by omega) (.inl ⟨rfl, rfl, rfl, rfl, rfl⟩)))
    exact ⟨fun _ => ⟨(), by (repeat' first | with_reducible apply And.intro | exact trivial | exact rfl | assumption)⟩, fun n => absurd e n⟩
end Go.Proofs.YtdjnipabfbblnaaGreatDoor
