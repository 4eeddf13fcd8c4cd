/- Tables within tables: an act is done as is told, 1 deep. -/
import Derived.Test.YtfkacmmcgncooaaGreatDoorYa1P
set_option maxRecDepth 100000
namespace Go.Proofs.YtfkacmmcgncooaaGreatDoor
open Go.Ev
set_option linter.unusedSectionVars false
variable [Go.Ev.Frozen Tryz.prog]
noncomputable section
def W_G_do1_0 : DoA → Option AO := fun (a : DoA) => some (AO.row ([Zp 14 0, sc 26 2, sc 27 2, sc 28 2, tgI .i64 a.1.5.4, tgI .i64 a.1.5.5, tgI .i64 a.1.5.6, tgI .i64 a.1.5.7, tgI
 .u64 a.1.5.8, sc 29 2] ++ []) 83 (Md.grown 1))
def W_G_do1_1 : DoA → Option AO := fun (a : DoA) => some (AO.row [Zp 14 0, Value.slice (some (Addr.mk (Nat.add (Nat.succ (Nat.succ (Nat.succ (14 + 16)))) 0) 0 none)) 2 2,
 Value.slice (some (Addr.mk (Nat.add (Nat.succ (Nat.succ (Nat.succ (14 + 16)))) 1) 0 none)) 2 2, Value.slice (some (Addr.mk (Nat.add (Nat.succ (Nat.succ (Nat.succ (14 + 16)))) 2) 0
 none)) 2 2, tgI .i64 a.1.5.4, tgI .i64 a.1.5.5, tgI .i64 a.1.5.6, tgI .i64 a.1.5.7, tgI .u64 a.1.5.8, Value.slice (some (Addr.mk (Nat.add (Nat.add (Nat.succ (Nat.succ (Nat.succ (14
 + 16)))) (Nat.sub (12 + 6) 15)) 0) 0 none)) 2 2] 83 Md.own)
end
set_option maxHeartbeats 3200000 in
abbrev QYd11P_39 (a0 : RuA) : Prop := True ∧ True ∧ Z2 ∧ Z1 a0.19.1 ∧ Z1 a0.19.2 ∧ Z1 a0.19.3 ∧ Z1 a0.19.4 ∧ Z1 a0.19.5 ∧ Z1 a0.19.6 ∧ Z1 a0.19.7 ∧ Z1 a0.19.8 ∧ 0 = 0 ∧ (0 = 0 ∧ 1
 = 1 ∧ 1 = 1) ∧ Z2 ∧ True
abbrev QYd11P_32 : Prop := True ∧ FlatL [Value.int .i64 1, Value.int .i64 1] ∧ [Value.int .i64 1, Value.int .i64 1] = [Value.int .i64 1, Value.int .i64 1]
abbrev QYd11P_27 (a0 : RuA) : Prop := True ∧ (2 : Int) = 2 ∧ (2 : Int) = 2 ∧ Z2 ∧ (0 = 0 ∧ 1 = 1 ∧ 1 = 1) ∧ (0 = 0 ∧ Z1 a0.1 ∧ Z1 a0.1) ∧ (0 = 0 ∧ Z1 a0.2 ∧ Z1 a0.2) ∧ (0 = 0 ∧ Z1
 a0.3 ∧ Z1 a0.3) ∧ (0 = 0 ∧ Z1 a0.4 ∧ Z1 a0.4) ∧ (0 = 0 ∧ Z1 a0.5 ∧ Z1 a0.5) ∧ Z1 a0.6 ∧ Z1 a0.7 ∧ Z1 a0.8 ∧ Z1 a0.9 ∧ Z1 a0.10 ∧ True
abbrev QYd11P_33 : Prop := True ∧ FlatL [Value.int .i32 0, Value.int .i32 0] ∧ [Value.int .i32 0, Value.int .i32 0] = [Value.int .i32 0, Value.int .i32 0]
abbrev QYd11P_1 (a0 : RuA) (a1 : PoA) : Prop := QYd11P_39 a0 ∧ QYd11P_32 ∧ QYd11P_27 a0 ∧ QYd11P_33 ∧ ZF a0.11 ∧ ZF a0.12 ∧ ZF a0.13 ∧ ZF a0.14 ∧ ZF a0.15 ∧ ZF a0.16 ∧ ZF a0.17 ∧
 ZF a0.18 ∧ ZF a1.1 ∧ ZF a1.2 ∧ ZF a1.3 ∧ ZF cells2 ∧ True
abbrev QYd11P_19 (a0 : PoA) : Prop := Z2 ∧ Z2 ∧ Z2 ∧ Z1 a0.4 ∧ Z1 a0.5 ∧ Z1 a0.6 ∧ Z1 a0.7 ∧ Z1 a0.8 ∧ True
abbrev QYd11P_2 (a0 : PoA) (a1 : Int) (a2 : RuA) (a3 : Int) : Prop := (0 = 0 ∧ QYd11P_19 a0 ∧ Z1 a1 ∧ (false = false ∧ (0 = 0 ∧ 1 = 1 ∧ 1 = 1) ∧ (0 : Int) = 0 ∧ (0 : Int) = 0 ∧ (0
 : Int) = 0 ∧ (0 : Int) = 0 ∧ (0 : Int) = 0 ∧ (0 : Int) = 0 ∧ (0 : Int) = 0 ∧ (0 : Int) = 0 ∧ True) ∧ True) ∧ QYd11P_39 a2 ∧ QYd11P_32 ∧ QYd11P_27 a2 ∧ QYd11P_33 ∧ ZF a2.11 ∧ ZF
 a2.12 ∧ ZF a2.13 ∧ ZF a2.14 ∧ ZF a2.15 ∧ ZF a2.16 ∧ ZF a2.17 ∧ ZF a2.18 ∧ ZF a0.1 ∧ ZF a0.2 ∧ ZF a0.3 ∧ (True ∧ Z1 a3 ∧ True) ∧ ZF cells2 ∧ True
abbrev QYd11P_3 : Prop := True ∧ True ∧ True ∧ True ∧ True ∧ True ∧ True ∧ True ∧ True ∧ True ∧ True ∧ True ∧ (True ∧ True) ∧ (True ∧ True ∧ True) ∧ True ∧ True ∧ True
abbrev QYd11P_43 (a0 : DoA) (a1 : PoA) : Prop := ∃ (b0 b1 b2 : Nat), isG a0.1.4 a0.1.5 b0 b1 ∧ actG b0 b1 a0.2 a0.3 a0.4 = (↑b2 : Int) ∧ isG a0.1.4 a1 b0 b2
abbrev QYd11P_29 (a0 : PoA) (a1 : PoA) : Prop := 0 = 0 ∧ Z2 ∧ Z2 ∧ Z2 ∧ a0.4 = a1.4 ∧ a0.5 = a1.5 ∧ a0.6 = a1.6 ∧ a0.7 = a1.7 ∧ a0.8 = a1.8 ∧ Z2 ∧ True
abbrev QYd11P_69 (a0 : OuA) (a1 : PoA) (a2 : PoA) : Prop := 0 = 0 ∧ Z2 ∧ Z2 ∧ Z2 ∧ Z1 a0.1 ∧ Z1 a0.2 ∧ Z1 a0.3 ∧ Z1 a0.4 ∧ Z1 a0.5 ∧ Z2 ∧ QYd11P_29 a1 a2
abbrev QYd11P_52 (a0 : OuA) : Prop := 2 = 2 ∧ Z1 a0.6 ∧ Z1 a0.7 ∧ True
abbrev QYd11P_34 (a0 : StA) (a1 : PoA) (a2 : PoA) : Prop := (2 = 2 ∧ Z1 a0.6 ∧ Z1 a0.7 ∧ True) ∧ (True ∧ FlatL a1.1 ∧ a1.1 = a2.1) ∧ (True ∧ FlatL a1.2 ∧ a1.2 = a2.2) ∧ (True ∧
 FlatL a1.3 ∧ a1.3 = a2.3) ∧ True
abbrev QYd11P_4 (a0 : DoA) (a1 : PoA) : Prop := ∃ (b0 : MvB), QYd11P_43 a0 b0.1 ∧ (0 : Int) = 0 ∧ (True ∧ (0 = 0 ∧ 4 = 4 ∧ 4 = 4) ∧ True) ∧ (4 = 4 ∧ 0 = 0 ∧ Z2 ∧ Z2 ∧ Z2 ∧ Z1
 a0.1.1.1 ∧ Z1 a0.1.1.2 ∧ Z1 a0.1.1.3 ∧ Z1 a0.1.1.4 ∧ Z1 a0.1.1.5 ∧ Z2 ∧ 0 = 0 ∧ Z2 ∧ Z2 ∧ Z2 ∧ Z1 a0.1.2.1 ∧ Z1 a0.1.2.2 ∧ Z1 a0.1.2.3 ∧ Z1 a0.1.2.4 ∧ Z1 a0.1.2.5 ∧ Z2 ∧ QYd11P_69
 a0.1.3 b0.1 a1) ∧ QYd11P_52 a0.1.1 ∧ QYd11P_52 a0.1.2 ∧ QYd11P_52 a0.1.3 ∧ QYd11P_34 a0.1 b0.1 a1
abbrev QYd11P_5 (a0 : Int) (a1 : DoA) : Prop := a0 ≠ 0 ∧ (a1.2 % (5 : Int) ≤ (2 : Int) → 0 < a0 ∧ ∃ (b0 b1 : Nat), isG a1.1.4 a1.1.5 b0 b1 ∧ actG b0 b1 a1.2 a1.3 a1.4 = -a0)
abbrev QYd11P_6 (a0 : StA) (a1 : BgB) (a2 : XyB) (a3 : GtA) : Prop := (2 = 2 ∧ a0.6 - a1.3.1 = a0.6 - a2.1 ∧ a0.7 - a1.3.2 = a0.7 - a2.2 ∧ True) ∧ (2 = 2 ∧ a1.3.1 = a2.1 ∧ a1.3.2 =
 a2.2 ∧ True) ∧ (True ∧ True ∧ Z2 ∧ a1.1.19.1 = a3.1.19.1 ∧ a1.1.19.2 = a3.1.19.2 ∧ a1.1.19.3 = a3.1.19.3 ∧ a1.1.19.4 = a3.1.19.4 ∧ a1.1.19.5 = a3.1.19.5 ∧ a1.1.19.6 = a3.1.19.6 ∧
 a1.1.19.7 = a3.1.19.7 ∧ a1.1.19.8 = a3.1.19.8 ∧ 0 = 0 ∧ (0 = 0 ∧ 1 = 1 ∧ 1 = 1) ∧ Z2 ∧ True) ∧ QYd11P_32 ∧ (True ∧ (2 : Int) = 2 ∧ (2 : Int) = 2 ∧ Z2 ∧ (0 = 0 ∧ 1 = 1 ∧ 1 = 1) ∧ (0
 = 0 ∧ a1.1.1 = a3.1.1 ∧ a1.1.1 = a3.1.1) ∧ (0 = 0 ∧ a1.1.2 = a3.1.2 ∧ a1.1.2 = a3.1.2) ∧ (0 = 0 ∧ a1.1.3 = a3.1.3 ∧ a1.1.3 = a3.1.3) ∧ (0 = 0 ∧ a1.1.4 = a3.1.4 ∧ a1.1.4 = a3.1.4) ∧
 (0 = 0 ∧ a1.1.5 = a3.1.5 ∧ a1.1.5 = a3.1.5) ∧ a1.1.6 = a3.1.6 ∧ a1.1.7 = a3.1.7 ∧ a1.1.8 = a3.1.8 ∧ a1.1.9 = a3.1.9 ∧ a1.1.10 = a3.1.10 ∧ True) ∧ QYd11P_33 ∧ (True ∧ FlatL a1.1.11
 ∧ a1.1.11 = a3.1.11) ∧ (True ∧ FlatL a1.1.12 ∧ a1.1.12 = a3.1.12) ∧ (True ∧ FlatL a1.1.13 ∧ a1.1.13 = a3.1.13) ∧ (True ∧ FlatL a1.1.14 ∧ a1.1.14 = a3.1.14) ∧ (True ∧ FlatL a1.1.15
 ∧ a1.1.15 = a3.1.15) ∧ (True ∧ FlatL a1.1.16 ∧ a1.1.16 = a3.1.16) ∧ (True ∧ FlatL a1.1.17 ∧ a1.1.17 = a3.1.17) ∧ (True ∧ FlatL a1.1.18 ∧ a1.1.18 = a3.1.18) ∧ (True ∧ FlatL a1.2.1 ∧
 a1.2.1 = a3.2.1) ∧ (True ∧ FlatL a1.2.2 ∧ a1.2.2 = a3.2.2) ∧ (True ∧ FlatL a1.2.3 ∧ a1.2.3 = a3.2.3) ∧ True ∧ True
abbrev QYd11P_7 (a0 : DoA) (a1 : PoA) : Prop := ∃ (b0 : MvB), QYd11P_43 a0 b0.1 ∧ (0 : Int) = 0 ∧ (True ∧ (0 = 0 ∧ 3 = 3 ∧ 3 = 3) ∧ True) ∧ (3 = 3 ∧ 0 = 0 ∧ Z2 ∧ Z2 ∧ Z2 ∧ Z1
 a0.1.1.1 ∧ Z1 a0.1.1.2 ∧ Z1 a0.1.1.3 ∧ Z1 a0.1.1.4 ∧ Z1 a0.1.1.5 ∧ Z2 ∧ QYd11P_69 a0.1.2 b0.1 a1) ∧ QYd11P_52 a0.1.1 ∧ QYd11P_52 a0.1.2 ∧ QYd11P_34 a0.1 b0.1 a1
abbrev QYd11P_44 (a0 : PoA) : Prop := 0 = 0 ∧ False ∧ False ∧ False ∧ a0.4 = 0 ∧ a0.5 = 0 ∧ a0.6 = 0 ∧ a0.7 = 0 ∧ a0.8 = 0 ∧ Z2 ∧ True
abbrev QYd11P_30 (a0 : StA) : Prop := (2 = 2 ∧ Z1 a0.1.6 ∧ Z1 a0.1.7 ∧ True) ∧ (2 = 2 ∧ Z1 a0.2.6 ∧ Z1 a0.2.7 ∧ True) ∧ (2 = 2 ∧ Z1 a0.3.6 ∧ Z1 a0.3.7 ∧ True) ∧ (2 = 2 ∧ Z1 a0.6 ∧
 Z1 a0.7 ∧ True) ∧ True
abbrev QYd11P_36 (a0 : PoA) : Prop := 0 = 0 ∧ Z2 ∧ Z2 ∧ Z2 ∧ Z1 a0.4 ∧ Z1 a0.5 ∧ Z1 a0.6 ∧ Z1 a0.7 ∧ Z1 a0.8 ∧ Z2 ∧ True
abbrev QYd11P_13 (a0 : Int) (a1 : Int) (a2 : Int) (a3 : Int) (a4 : Int) (a5 : PoA) : Prop := 0 = 0 ∧ Z2 ∧ Z2 ∧ Z2 ∧ Z1 a0 ∧ Z1 a1 ∧ Z1 a2 ∧ Z1 a3 ∧ Z1 a4 ∧ Z2 ∧ QYd11P_36 a5
abbrev QYd11P_23 (a0 : StA) : Prop := 4 = 4 ∧ 0 = 0 ∧ Z2 ∧ Z2 ∧ Z2 ∧ Z1 a0.1.1 ∧ Z1 a0.1.2 ∧ Z1 a0.1.3 ∧ Z1 a0.1.4 ∧ Z1 a0.1.5 ∧ Z2 ∧ 0 = 0 ∧ Z2 ∧ Z2 ∧ Z2 ∧ Z1 a0.2.1 ∧ Z1 a0.2.2 ∧
 Z1 a0.2.3 ∧ Z1 a0.2.4 ∧ Z1 a0.2.5 ∧ Z2 ∧ QYd11P_13 a0.3.1 a0.3.2 a0.3.3 a0.3.4 a0.3.5 a0.5
abbrev QYd11P_72 (a0 : StA) : Prop := (True ∧ (0 = 0 ∧ 4 = 4 ∧ 4 = 4) ∧ True) ∧ QYd11P_23 a0 ∧ QYd11P_30 a0
abbrev QYd11P_8 (a0 : Int) (a1 : DoA) : Prop := (a0 = 0 → (∃ (b0 : TnB), QYd11P_5 b0.1 a1 ∧ b0.1 = a0 ∧ (True ∧ (0 = 0 ∧ 4 = 4 ∧ 4 = 4) ∧ True) ∧ (4 = 4 ∧ 0 = 0 ∧ Z2 ∧ Z2 ∧ Z2 ∧ Z1
 a1.1.1.1 ∧ Z1 a1.1.1.2 ∧ Z1 a1.1.1.3 ∧ Z1 a1.1.1.4 ∧ Z1 a1.1.1.5 ∧ Z2 ∧ 0 = 0 ∧ Z2 ∧ Z2 ∧ Z2 ∧ Z1 a1.1.2.1 ∧ Z1 a1.1.2.2 ∧ Z1 a1.1.2.3 ∧ Z1 a1.1.2.4 ∧ Z1 a1.1.2.5 ∧ Z2 ∧ 0 = 0 ∧ Z2
 ∧ Z2 ∧ Z2 ∧ Z1 a1.1.3.1 ∧ Z1 a1.1.3.2 ∧ Z1 a1.1.3.3 ∧ Z1 a1.1.3.4 ∧ Z1 a1.1.3.5 ∧ Z2 ∧ QYd11P_44 a1.1.5) ∧ QYd11P_30 a1.1)) ∧ (¬(a0 = 0) → ∃ (b0 : TnB), QYd11P_5 b0.1 a1 ∧ b0.1 =
 a0 ∧ QYd11P_72 a1.1)
abbrev QYd11P_31 : Prop := ZF cells0 ∧ ZF cells1 ∧ ZF cells2 ∧ ZF cells4 ∧ ZF cells5 ∧ ZF cells6 ∧ ZF cells8 ∧ ZF cells9 ∧ ZF cells10 ∧ True
abbrev QYd11P_9 (a0 : DoA) : Prop := ((Z1 a0.2 ∧ Z1 a0.3 ∧ Z1 a0.4 ∧ Z1 a0.5 ∧ Value.slice a0.6 a0.7 a0.8 = Value.slice a0.6 a0.7 a0.8 ∧ True) ∧ QYd11P_19 a0.1.5 ∧ True) ∧ ZF
 a0.1.5.1 ∧ ZF a0.1.5.2 ∧ ZF a0.1.5.3 ∧ QYd11P_31
abbrev QYd11P_10 (a0 : DoA) (a1 : PoA) : Prop := ∃ (b0 : MvB), QYd11P_43 a0 b0.1 ∧ (0 : Int) = 0 ∧ (True ∧ Z2 ∧ True) ∧ (2 = 2 ∧ QYd11P_69 a0.1.1 b0.1 a1) ∧ QYd11P_52 a0.1.1 ∧
 QYd11P_34 a0.1 b0.1 a1
abbrev QYd11P_42 (a0 : StA) : Prop := 3 = 3 ∧ 0 = 0 ∧ Z2 ∧ Z2 ∧ Z2 ∧ Z1 a0.1.1 ∧ Z1 a0.1.2 ∧ Z1 a0.1.3 ∧ Z1 a0.1.4 ∧ Z1 a0.1.5 ∧ Z2 ∧ QYd11P_13 a0.2.1 a0.2.2 a0.2.3 a0.2.4 a0.2.5
 a0.5
abbrev QYd11P_26 (a0 : StA) : Prop := (True ∧ (0 = 0 ∧ 3 = 3 ∧ 3 = 3) ∧ True) ∧ QYd11P_42 a0 ∧ (2 = 2 ∧ Z1 a0.1.6 ∧ Z1 a0.1.7 ∧ True) ∧ (2 = 2 ∧ Z1 a0.2.6 ∧ Z1 a0.2.7 ∧ True) ∧ (2
 = 2 ∧ Z1 a0.6 ∧ Z1 a0.7 ∧ True) ∧ True
abbrev QYd11P_11 (a0 : Int) (a1 : DoA) : Prop := (a0 = 0 → (∃ (b0 : TnB), QYd11P_5 b0.1 a1 ∧ b0.1 = a0 ∧ (True ∧ (0 = 0 ∧ 3 = 3 ∧ 3 = 3) ∧ True) ∧ (3 = 3 ∧ 0 = 0 ∧ Z2 ∧ Z2 ∧ Z2 ∧
 Z1 a1.1.1.1 ∧ Z1 a1.1.1.2 ∧ Z1 a1.1.1.3 ∧ Z1 a1.1.1.4 ∧ Z1 a1.1.1.5 ∧ Z2 ∧ 0 = 0 ∧ Z2 ∧ Z2 ∧ Z2 ∧ Z1 a1.1.2.1 ∧ Z1 a1.1.2.2 ∧ Z1 a1.1.2.3 ∧ Z1 a1.1.2.4 ∧ Z1 a1.1.2.5 ∧ Z2 ∧
 QYd11P_44 a1.1.5) ∧ QYd11P_52 a1.1.1 ∧ QYd11P_52 a1.1.2 ∧ (2 = 2 ∧ Z1 a1.1.6 ∧ Z1 a1.1.7 ∧ True) ∧ True)) ∧ (¬(a0 = 0) → ∃ (b0 : TnB), QYd11P_5 b0.1 a1 ∧ b0.1 = a0 ∧ QYd11P_26
 a1.1)
abbrev QYd11P_41 : Prop := True ∧ True ∧ True ∧ True ∧ True ∧ True ∧ True ∧ True ∧ True ∧ True ∧ True
abbrev QYd11P_12 : Prop := True ∧ True ∧ QYd11P_41
abbrev QYd11P_14 (a0 : DoA) (a1 : PoA) : Prop := ∃ (b0 : MvB), QYd11P_43 a0 b0.1 ∧ (0 : Int) = 0 ∧ (True ∧ (0 = 0 ∧ 1 = 1 ∧ 1 = 1) ∧ True) ∧ (1 = 1 ∧ QYd11P_29 b0.1 a1) ∧ QYd11P_34
 a0.1 b0.1 a1
abbrev QYd11P_15 (a0 : StA) (a1 : GtA) : Prop := QYd11P_39 a0.4 ∧ QYd11P_32 ∧ QYd11P_27 a0.4 ∧ QYd11P_33 ∧ ZF a0.4.11 ∧ ZF a0.4.12 ∧ ZF a0.4.13 ∧ ZF a0.4.14 ∧ ZF a0.4.15 ∧ ZF
 a0.4.16 ∧ ZF a0.4.17 ∧ ZF a0.4.18 ∧ ZF a0.5.1 ∧ ZF a0.5.2 ∧ ZF a0.5.3 ∧ QYd11P_1 a1.1 a1.2
abbrev QYd11P_16 (a0 : StA) (a1 : D8) : Prop := (0 = 0 ∧ QYd11P_19 a0.5 ∧ Z1 a0.5.7 ∧ (true = true ∧ (0 = 0 ∧ 0 = 0) ∧ Z1 a1.1 ∧ Z1 a1.2 ∧ Z1 a1.3 ∧ Z1 a1.4 ∧ Z1 a1.5 ∧ Z1 a1.6 ∧
 Z1 a1.7 ∧ Z1 a1.8 ∧ True) ∧ True) ∧ QYd11P_1 a0.4 a0.5
abbrev QYd11P_17 (a0 : DoA) (a1 : D8) : Prop := a0.2 % (5 : Int) = 0 ∧ ∃ (b0 b1 : Nat) (b2 : Int), (b0, b1) ∈ allG ∧ PoA.mk a0.1.5.1 a0.1.5.2 a0.1.5.3 a0.1.5.4 a0.1.5.5 a0.1.5.6
 a0.1.5.7 a0.1.5.8 = posG b0 b1 ∧ (b0, b1, a0.1.5.7, [a1.1, a1.2, a1.3, a1.4, a1.5, a1.6, a1.7, a1.8], b2) ∈ showT
abbrev QYd11P_40 (a0 : StA) : Prop := (True ∧ Z2 ∧ True) ∧ (2 = 2 ∧ QYd11P_13 a0.1.1 a0.1.2 a0.1.3 a0.1.4 a0.1.5 a0.5) ∧ (2 = 2 ∧ Z1 a0.1.6 ∧ Z1 a0.1.7 ∧ True) ∧ (2 = 2 ∧ Z1 a0.6 ∧
 Z1 a0.7 ∧ True) ∧ True
abbrev QYd11P_18 (a0 : Int) (a1 : DoA) : Prop := (a0 = 0 → (∃ (b0 : TnB), QYd11P_5 b0.1 a1 ∧ b0.1 = a0 ∧ (True ∧ Z2 ∧ True) ∧ (2 = 2 ∧ 0 = 0 ∧ Z2 ∧ Z2 ∧ Z2 ∧ Z1 a1.1.1.1 ∧ Z1
 a1.1.1.2 ∧ Z1 a1.1.1.3 ∧ Z1 a1.1.1.4 ∧ Z1 a1.1.1.5 ∧ Z2 ∧ QYd11P_44 a1.1.5) ∧ QYd11P_52 a1.1.1 ∧ (2 = 2 ∧ Z1 a1.1.6 ∧ Z1 a1.1.7 ∧ True) ∧ True)) ∧ (¬(a0 = 0) → ∃ (b0 : TnB),
 QYd11P_5 b0.1 a1 ∧ b0.1 = a0 ∧ QYd11P_40 a1.1)
abbrev QYd11P_37 (a0 : PoA) : Prop := ∃ (b0 b1 : Nat), (b0, b1) ∈ allG ∧ PoA.mk a0.1 a0.2 a0.3 a0.4 a0.5 a0.6 a0.7 a0.8 = posG b0 b1
abbrev QYd11P_20 (a0 : DoA) : Prop := True ∧ (0 ≤ a0.2 ∧ a0.2 < 256) ∧ QYd11P_37 a0.1.5
abbrev QYd11P_49 (a0 : StA) : Prop := (True ∧ (0 = 0 ∧ 1 = 1 ∧ 1 = 1) ∧ True) ∧ (1 = 1 ∧ QYd11P_36 a0.5) ∧ (2 = 2 ∧ Z1 a0.6 ∧ Z1 a0.7 ∧ True) ∧ True
abbrev QYd11P_21 (a0 : Int) (a1 : DoA) : Prop := (a0 = 0 → (∃ (b0 : TnB), QYd11P_5 b0.1 a1 ∧ b0.1 = a0 ∧ (True ∧ (0 = 0 ∧ 1 = 1 ∧ 1 = 1) ∧ True) ∧ (1 = 1 ∧ QYd11P_44 a1.1.5) ∧ (2 =
 2 ∧ Z1 a1.1.6 ∧ Z1 a1.1.7 ∧ True) ∧ True)) ∧ (¬(a0 = 0) → ∃ (b0 : TnB), QYd11P_5 b0.1 a1 ∧ b0.1 = a0 ∧ QYd11P_49 a1.1)
abbrev QYd11P_22 (a0 : StA) (a1 : D8) (a2 : PoA) : Prop := ∃ (b0 b1 b2 : Nat), isG a0.4 a0.5 b0 b1 ∧ (b0, b1, a0.5.7, [a1.1, a1.2, a1.3, a1.4, a1.5, a1.6, a1.7, a1.8], (↑b2 : Int))
 ∈ showT ∧ isG a0.4 a2 b0 b2
abbrev QYd11P_24 (a0 : StA) (a1 : D8) : Prop := True ∧ ∃ (b0 b1 : Nat) (b2 : Int), isG a0.4 a0.5 b0 b1 ∧ (b0, b1, a0.5.7, [a1.1, a1.2, a1.3, a1.4, a1.5, a1.6, a1.7, a1.8], b2) ∈
 showT
abbrev QYd11P_25 (a0 : StA) : Prop := True ∧ (2 ≤ nat_lit 2 ∧ nat_lit 0 + 2 ≤ List.length [tgI .i64 a0.6, tgI .i64 a0.7] ∧ FlatL [tgI .i64 a0.6, tgI .i64 a0.7]) ∧ ∃ (b0 b1 : Int),
 lwin [tgI .i64 a0.6, tgI .i64 a0.7] (nat_lit 0) 2 = [tgI .i64 b0, tgI .i64 b1]
abbrev QYd11P_28 (a0 : StA) : Prop := ((false = false ∧ nat_lit 0 = 0 ∧ 2 = 2 ∧ nat_lit 2 = 2) ∧ True) ∧ (True ∧ FlatL [tgI .i64 a0.6, tgI .i64 a0.7] ∧ [tgI .i64 a0.6, tgI .i64
 a0.7] = [tgI .i64 a0.6, tgI .i64 a0.7]) ∧ True
abbrev QYd11P_35 (a0 : RuA) (a1 : PoA) (a2 : Int) (a3 : Int) (a4 : PoA) : Prop := ∃ (b0 b1 b2 : Nat), isG a0 a1 b0 b1 ∧ doG b0 b1 a2 a3 = (↑b2 : Int) ∧ isG a0 a4 b0 b2
abbrev QYd11P_38 (a0 : DoA) : Prop := True ∧ inR a0.4 ∧ ∃ (b0 b1 : Nat), isG a0.1.4 a0.1.5 b0 b1
abbrev QYd11P_45 (a0 : DoA) (a1 : PoA) : Prop := ∃ (b0 b1 b2 : Nat), isG a0.1.4 a0.1.5 b0 b1 ∧ silG b0 b1 a0.3 = (↑b2 : Int) ∧ isG a0.1.4 a1 b0 b2
abbrev QYd11P_46 (a0 : DoA) : Prop := 0 < a0.1.5.5 ∧ a0.2 % (5 : Int) = 0 → False
abbrev QYd11P_47 (a0 : PoA) (a1 : DoA) : Prop := 0 = 0 ∧ 0 = 0 ∧ QYd11P_19 a0 ∧ Value.slice a1.6 a1.7 a1.8 = Value.slice a1.6 a1.7 a1.8 ∧ True
abbrev QYd11P_48 (a0 : Int) (a1 : RuA) (a2 : PoA) (a3 : Int) (a4 : Int) : Prop := 0 < a0 ∧ ∃ (b0 b1 : Nat), isG a1 a2 b0 b1 ∧ doG b0 b1 a3 a4 = -a0
abbrev QYd11P_50 (a0 : Int) (a1 : GtA) : Prop := ∃ (b0 : Nat), (b0 = 0 ∨ b0 = 1) ∧ (↑b0 : Int) = a0 % (2 : Int) ∧ isG a1.1 a1.2 b0 0
abbrev QYd11P_51 (a0 : StA) (a1 : XyB) : Prop := lwin [tgI .i64 a0.6, tgI .i64 a0.7] (nat_lit 0) 2 = [tgI .i64 a1.1, tgI .i64 a1.2]
abbrev QYd11P_53 (a0 : DoA) : Prop := (0 = 0 ∧ QYd11P_19 a0.1.5 ∧ Z1 a0.3 ∧ True) ∧ QYd11P_1 a0.1.4 a0.1.5
abbrev QYd11P_54 (a0 : Int) (a1 : DoA) : Prop := 0 < a0 ∧ ∃ (b0 b1 : Nat), isG a1.1.4 a1.1.5 b0 b1 ∧ silG b0 b1 a1.3 = -a0
abbrev QYd11P_55 (a0 : StA) (a1 : XyB) : Prop := ∃ (b0 b1 : Nat), isG a0.4 a0.5 b0 b1 ∧ turnG b0 b1 < (0 : Int) ∧ payR b0 b1 (a0.6 + a0.7) a1.1 a1.2
abbrev QYd11P_56 (a0 : DoA) : Prop := ∀ (b0 : D8), QYd11P_17 a0 b0 → QYd11P_12 ∧ QYd11P_24 a0.1 b0 ∧ QYd11P_16 a0.1 b0 ∧ (∀ (b1 : PoA), QYd11P_22 a0.1 b0 b1 → (True ∧ QYd11P_3) ∧
 QYd11P_14 a0 b1) ∧ True
abbrev QYd11P_57 (a0 : DoA) : Prop := ∀ (b0 : D8), QYd11P_17 a0 b0 → QYd11P_12 ∧ QYd11P_24 a0.1 b0 ∧ QYd11P_16 a0.1 b0 ∧ (∀ (b1 : PoA), QYd11P_22 a0.1 b0 b1 → (True ∧ QYd11P_3) ∧
 QYd11P_10 a0 b1) ∧ True
abbrev QYd11P_58 (a0 : DoA) : Prop := ∀ (b0 : D8), QYd11P_17 a0 b0 → QYd11P_12 ∧ QYd11P_24 a0.1 b0 ∧ QYd11P_16 a0.1 b0 ∧ (∀ (b1 : PoA), QYd11P_22 a0.1 b0 b1 → (True ∧ QYd11P_3) ∧
 QYd11P_7 a0 b1) ∧ True
abbrev QYd11P_59 (a0 : DoA) : Prop := ∀ (b0 : D8), QYd11P_17 a0 b0 → QYd11P_12 ∧ QYd11P_24 a0.1 b0 ∧ QYd11P_16 a0.1 b0 ∧ (∀ (b1 : PoA), QYd11P_22 a0.1 b0 b1 → (True ∧ QYd11P_3) ∧
 QYd11P_4 a0 b1) ∧ True
abbrev QYd11P_60 (a0 : DoA) (a1 : GtA) : Prop := True ∧ (isGx a0.1.4 a0.1.5 ∧ isGx a1.1 a1.2) ∧ (smQ a0.1.6 ∧ smQ a0.1.7) ∧ twoX a0.6 a0.7 a0.8
abbrev QYd11P_61 (a0 : DoA) (a1 : PoA) (a2 : Int) (a3 : RuA) (a4 : Int) : Prop := QYd11P_12 ∧ QYd11P_38 a0 ∧ QYd11P_2 a1 a2 a3 a4 ∧ (∀ (b0 : PoA), QYd11P_35 a3 a1 a2 a4 b0 → (True
 ∧ QYd11P_3) ∧ QYd11P_14 a0 b0) ∧ (∀ (b0 : TnB), QYd11P_48 b0.1 a3 a1 a2 a4 → (True ∧ QYd11P_3) ∧ QYd11P_21 b0.1 a0) ∧ True
abbrev QYd11P_62 (a0 : DoA) (a1 : PoA) (a2 : Int) (a3 : RuA) (a4 : Int) : Prop := QYd11P_12 ∧ QYd11P_38 a0 ∧ QYd11P_2 a1 a2 a3 a4 ∧ (∀ (b0 : PoA), QYd11P_35 a3 a1 a2 a4 b0 → (True
 ∧ QYd11P_3) ∧ QYd11P_10 a0 b0) ∧ (∀ (b0 : TnB), QYd11P_48 b0.1 a3 a1 a2 a4 → (True ∧ QYd11P_3) ∧ QYd11P_18 b0.1 a0) ∧ True
abbrev QYd11P_63 (a0 : DoA) (a1 : PoA) (a2 : Int) (a3 : RuA) (a4 : Int) : Prop := QYd11P_12 ∧ QYd11P_38 a0 ∧ QYd11P_2 a1 a2 a3 a4 ∧ (∀ (b0 : PoA), QYd11P_35 a3 a1 a2 a4 b0 → (True
 ∧ QYd11P_3) ∧ QYd11P_7 a0 b0) ∧ (∀ (b0 : TnB), QYd11P_48 b0.1 a3 a1 a2 a4 → (True ∧ QYd11P_3) ∧ QYd11P_11 b0.1 a0) ∧ True
abbrev QYd11P_64 (a0 : DoA) (a1 : PoA) (a2 : Int) (a3 : RuA) (a4 : Int) : Prop := QYd11P_12 ∧ QYd11P_38 a0 ∧ QYd11P_2 a1 a2 a3 a4 ∧ (∀ (b0 : PoA), QYd11P_35 a3 a1 a2 a4 b0 → (True
 ∧ QYd11P_3) ∧ QYd11P_4 a0 b0) ∧ (∀ (b0 : TnB), QYd11P_48 b0.1 a3 a1 a2 a4 → (True ∧ QYd11P_3) ∧ QYd11P_8 b0.1 a0) ∧ True
abbrev QYd11P_65 (a0 : StA) : Prop := (True ∧ True) ∧ (True ∧ True) ∧ (True ∧ True) ∧ (True ∧ True) ∧ QYd11P_1 a0.4 a0.5
abbrev QYd11P_66 (a0 : OuA) : Prop := 0 = 0 ∧ Z2 ∧ Z2 ∧ Z2 ∧ Z1 a0.1 ∧ Z1 a0.2 ∧ Z1 a0.3 ∧ Z1 a0.4 ∧ Z1 a0.5 ∧ Z2 ∧ True
abbrev QYd11P_67 (a0 : PoA) : Prop := (QYd11P_19 a0 ∧ True) ∧ ZF a0.1 ∧ ZF a0.2 ∧ ZF a0.3 ∧ True
abbrev QYd11P_68 (a0 : PoA) (a1 : PoA) (a2 : PoA) : Prop := 0 = 0 ∧ Z2 ∧ Z2 ∧ Z2 ∧ Z1 a0.4 ∧ Z1 a0.5 ∧ Z1 a0.6 ∧ Z1 a0.7 ∧ Z1 a0.8 ∧ Z2 ∧ QYd11P_29 a1 a2
abbrev QYd11P_70 (a0 : StA) : Prop := (0 = 0 ∧ QYd11P_19 a0.5 ∧ True) ∧ QYd11P_1 a0.4 a0.5
abbrev QYd11P_71 (a0 : OuA) (a1 : XyB) (a2 : XyB) : Prop := (2 = 2 ∧ a0.6 + a1.1 = a0.6 + a2.1 ∧ a0.7 + a1.2 = a0.7 + a2.2 ∧ True) ∧ True ∧ True ∧ True
abbrev QYd11P_73 (a0 : StA) (a1 : Int) : Prop := ∃ (b0 b1 : Nat), isG a0.4 a0.5 b0 b1 ∧ a1 = turnG b0 b1
theorem vc_do1 (a : DoA) : G_do1 a = ((True ∧ QYd11P_37 a.1.5) ∧ QYd11P_67 a.1.5 ∧ (∀ (_ : Unit), True → QYd11P_25 a.1 ∧ QYd11P_28 a.1 ∧ (∀ (x5 : XyB), QYd11P_51 a.1 x5 → ((True ∧ True ∧ True) ∧ (True ∧ True ∧ True) ∧
(True ∧ True ∧ True) ∧ (W_G_do1_0 a = W_G_do1_0 a ∧ W_G_do1_0 a = W_G_do1_0 a ∧ True) ∧ True ∧ True ∧ True ∧ True ∧ True ∧ (True ∧ True) ∧ (True ∧ True) ∧ (True ∧ True) ∧
(W_G_do1_0 a = W_G_do1_0 a ∧ True) ∧ True ∧ True ∧ True ∧ True) ∧ (True ∧ True ∧ True ∧ (True ∧ True) ∧ (W_G_do1_1 a = W_G_do1_1 a ∧ True) ∧ (True ∧ True) ∧ (W_G_do1_1 a =
W_G_do1_1 a ∧ True) ∧ True ∧ True ∧ True ∧ True) ∧ (5 : Int) ≠ (0 : Int) ∧ ∀ (x6 : Int), x6 = Int.tmod a.2 (5 : Int) → (x6 = (0 : Int) → QYd11P_20 a ∧ QYd11P_9 a ∧ QYd11P_56 a ∧ (∀
(_ : Unit), QYd11P_46 a → QYd11P_12 ∧ (True ∧ (∃ (x25 x26 : Nat), isG a.1.4 a.1.5 x25 x26)) ∧ QYd11P_70 a.1 ∧ (∀ (x27 : TnB), QYd11P_73 a.1 x27.1 → QYd11P_41 ∧ QYd11P_61 a a.1.5
x27.1 a.1.4 a.4) ∧ True) ∧ True) ∧ (¬(x6 = (0 : Int)) → (x6 = (1 : Int) → QYd11P_20 a ∧ QYd11P_9 a ∧ QYd11P_56 a ∧ (∀ (_ : Unit), QYd11P_46 a → QYd11P_61 a a.1.5 a.3 a.1.4 a.4) ∧
True) ∧ (¬(x6 = (1 : Int)) → (x6 = (2 : Int) → QYd11P_12 ∧ (True ∧ (∃ (x86 x87 : Nat), isG a.1.4 a.1.5 x86 x87)) ∧ QYd11P_53 a ∧ (∀ (x88 : PoA), QYd11P_45 a x88 → QYd11P_3 ∧
QYd11P_14 a x88) ∧ (∀ (x96 : TnB), QYd11P_54 x96.1 a → QYd11P_3 ∧ QYd11P_21 x96.1 a) ∧ True) ∧ (¬(x6 = (2 : Int)) → (x6 = (3 : Int) → (True ∧ 0 ≤ a.5 ∧ a.5 < 256) ∧ ((Z1 a.5 ∧
True) ∧ QYd11P_31) ∧ (∀ (x105 : GtA), QYd11P_50 a.5 x105 → QYd11P_60 a x105 ∧ (QYd11P_47 x105.2 a ∧ (True ∧ (0 = 0 ∧ 1 = 1 ∧ 1 = 1) ∧ True) ∧ (1 = 1 ∧ QYd11P_36 a.1.5) ∧ (2 = 2 ∧
Z1 a.1.6 ∧ Z1 a.1.7 ∧ True) ∧ QYd11P_15 a.1 x105) ∧ (∀ (x107 : XyB), partX a.6 a.7 x107 ∧ fitsQ (StA.mk (OuA.mk (0 : Int) (0 : Int) (0 : Int) (0 : Int) (0 : Int) (0 : Int) (0 :
Int)) (OuA.mk (0 : Int) (0 : Int) (0 : Int) (0 : Int) (0 : Int) (0 : Int) (0 : Int)) (OuA.mk (0 : Int) (0 : Int) (0 : Int) (0 : Int) (0 : Int) (0 : Int) (0 : Int)) a.1.4 a.1.5
a.1.6 a.1.7) x107 → ∃ (x108 : BgB), (a.2 % (5 : Int) = 3 ∧ isGx x108.1 x108.2 ∧ fitsQ a.1 x108.3) ∧ (0 : Int) = 0 ∧ (True ∧ Z2 ∧ True) ∧ (2 = 2 ∧ QYd11P_68 a.1.5 x108.2 x105.2) ∧
QYd11P_6 a.1 x108 x107 x105) ∧ (∀ (x109 : TnB), x109.1 = 2 ∨ x109.1 = 3 ∨ x109.1 = 10 ∨ x109.1 = 21 → ∃ (x110 : TnB), QYd11P_5 x110.1 a ∧ x110.1 = x109.1 ∧ QYd11P_49 a.1) ∧ True) ∧
True) ∧ (¬(x6 = (3 : Int)) → (True ∧ True) ∧ ((0 = 0 ∧ True) ∧ (True ∧ (0 = 0 ∧ 1 = 1 ∧ 1 = 1) ∧ True) ∧ (1 = 1 ∧ QYd11P_36 a.1.5) ∧ (2 = 2 ∧ Z1 a.1.6 ∧ Z1 a.1.7 ∧ True) ∧ (True ∧
True) ∧ (True ∧ True) ∧ (True ∧ True) ∧ (True ∧ True) ∧ True) ∧ (∀ (_ : Unit), True → ∃ (x114 : TnB), QYd11P_5 x114.1 a ∧ x114.1 = 9 ∧ QYd11P_49 a.1) ∧ True))))) ∧ True) ∧ True) := by kernel_rfl
theorem show_all : (showT.all fun e => Nat.beq e.1 1 && (decide (0 < (gpos e.1 e.2.1).r1) && decide (showG e.1 e.2.1 = e.2.2.2.2))) = true := by kernel_rfl
theorem show_at {k j : Nat} {s r : Int} {l : List Int} (h : (k, j, s, l, r) ∈ showT) : k = 1 ∧ 0 < (gpos k j).r1 ∧ showG k j = r := by
  have := List.all_eq_true.1 show_all _ h
  simp only [Bool.and_eq_true, decide_eq_true_eq] at this
  exact ⟨Nat.eq_of_beq_eq_true this.1, this.2⟩
theorem show_here {g : RuA} {p : PoA} {k j k2 j2 : Nat} {s r : Int} {l : List Int} (hi : isG g p k j) (hm : (k2, j2) ∈ allG) (hp : p = posG k2 j2) (h : (k2, j2, s, l, r) ∈ showT) : (k, j, s, l, r) ∈ showT := by
  obtain ⟨h1, h2, -⟩ := show_at h
  have h3 : 0 < (gpos k j).r1 := by
    have : (posG k j).r1 = (posG k2 j2).r1 := by rw [← hp, ← hi.2.2]
    have this : (gpos k j).r1 = (gpos k2 j2).r1 := this
    omega
  have h4 := List.all_eq_true.1 pend_all (k, j) hi.1
  simp only [Bool.or_eq_true, Bool.and_eq_true, decide_eq_true_eq] at h4
  rcases h4 with h4 | ⟨h4, -⟩
  · omega
  · have h4 : k = 1 := Nat.eq_of_beq_eq_true h4
    have e : k2 = k := h1.trans h4.symm
    subst e
    obtain ⟨-, e2⟩ := isG_inj hi ⟨hm, hi.2.1, hp⟩
    rw [e2]; exact h
theorem act_show {k j m : Nat} {w t z s : Int} {l : List Int} (hw : w % 5 = 0) (h : (k, j, s, l, (m : Int)) ∈ showT) : actG k j w t z = (m : Int) := by
  obtain ⟨-, h2, h3⟩ := show_at h
  unfold actG
  rw [if_pos hw, if_pos h2, h3]
theorem act_turn {k j : Nat} {w t z : Int} (hw : w % 5 = 0) (h : ¬ 0 < (gpos k j).r1) : actG k j w t z = doG k j (turnG k j) z := by
  unfold actG
  rw [if_pos hw, if_neg h]
theorem act_do {k j : Nat} {w t z : Int} (hw : w % 5 = 1) : actG k j w t z = doG k j t z := by
  unfold actG
  rw [if_neg (by omega), if_pos hw]
theorem act_sil {k j : Nat} {w t z : Int} (hw : w % 5 = 2) : actG k j w t z = silG k j t := by
  unfold actG
  rw [if_neg (by omega), if_neg (by omega)]
theorem er_ne {n : Int} (h : erQ n) : n ≠ 0 := by rcases h with h | h | h | h <;> omega
theorem cwDo_ok {p : CW → CW} (h : ∀ c, CwOK Tryz.prog c → CwOK Tryz.prog (p c)) : CwOK Tryz.prog (cwDo p) := cwX_ok (fun _ hc => cwD_ok s_move (cwD_ok s_gturn (cwE_ok (S := S_gshowE) s_gshow (cwE_ok (S := S_gdoE) s_gdo (cwD_ok s_gsl (cwD_ok s_gclone (cwD_ok s_startG (cwE_ok s_cl2 (h _ hc))))))))) 5
theorem cwDo1_ok : CwOK Tryz.prog cwDo1 := cwDo_ok fun _ h => cwE_ok s_push1 (cwE_ok s_pop1 h)
theorem cwDo2_ok : CwOK Tryz.prog cwDo2 := cwDo_ok fun _ h => cwE_ok s_push2 (cwE_ok s_pop2 h)
theorem cwDo3_ok : CwOK Tryz.prog cwDo3 := cwDo_ok fun _ h => cwE_ok s_push3 (cwE_ok s_pop3 h)
theorem cwDo4_ok : CwOK Tryz.prog cwDo4 := cwDo_ok fun _ h => cwE_ok s_push4 (cwE_ok s_pop4 h)
set_option maxHeartbeats 1600000 in
theorem g_do1 (a : DoA) (hp : doP 1 a) : GW (G_do1 a) := by
  obtain ⟨⟨k, j, hi⟩, ⟨hs, ho⟩, ⟨hw, hz, hh⟩, htwo⟩ := hp
  obtain ⟨f1, f2, f3, f4, f5, f6, f7, f8, f9, f10, f11⟩ := flG_of hi
  have f12 := fl11
  have f13 := fl00
  have f14 := fl2t a.s.x a.s.y
  have gl0 : FlatL cells0 := flatAll (by kernel_rfl)
  have gl1 : FlatL cells1 := flatAll (by kernel_rfl)
  have gl2 : FlatL cells2 := flatAll (by kernel_rfl)
  have gl4 : FlatL cells4 := flatAll (by kernel_rfl)
  have gl5 : FlatL cells5 := flatAll (by kernel_rfl)
  have gl6 : FlatL cells6 := flatAll (by kernel_rfl)
  have gl8 : FlatL cells8 := flatAll (by kernel_rfl)
  have gl9 : FlatL cells9 := flatAll (by kernel_rfl)
  have gl10 : FlatL cells10 := flatAll (by kernel_rfl)
  refine ⟨?_⟩
  rw [vc_do1]
  (repeat(apply And.intro;focus(and_intros<;>first|trivial|rfl)))
  refine ⟨⟨trivial, k, j, hi.1, hi.2.2⟩, by (and_intros<;>first|trivial|rfl), fun _ _ => ?_, trivial⟩
  (repeat(apply And.intro;focus(and_intros<;>first|trivial|rfl)))
  refine ⟨⟨trivial, ⟨Nat.le_refl _, Nat.le_refl _, f14⟩, a.s.x, a.s.y, rfl⟩, by (and_intros<;>first|trivial|rfl), fun q _ => ?_, trivial⟩
  (repeat(apply And.intro;focus(and_intros<;>first|trivial|rfl)))
  intro x6 e6
  have e6 : x6 = a.w % 5 := by rw [e6]; exact Int.tmod_eq_emod_of_nonneg hw.1
  refine ⟨fun h0 => ?_, fun h0 => ⟨fun h1 => ?_, fun h1 => ⟨fun h2 => ?_, fun h2 => ⟨fun h3 => ?_, fun h3 => ?_⟩⟩⟩⟩
  · have w0 : a.w % 5 = 0 := by omega
    (repeat(apply And.intro;focus(and_intros<;>first|trivial|rfl)))
    refine ⟨⟨trivial, hw, k, j, hi.1, hi.2.2⟩, by (and_intros<;>first|trivial|rfl), fun d hd => ?_, fun u hu => ?_, trivial⟩
    · obtain ⟨-, k2, j2, r, hm2, hp2, hs2⟩ := hd
      have hs2 : (k2, j2, a.s.p.r3, d.l, r) ∈ showT := hs2
      have hs2 := show_here hi hm2 hp2 hs2
      (repeat(apply And.intro;focus(and_intros<;>first|trivial|rfl)))
      refine ⟨⟨trivial, k, j, r, hi, hs2⟩, by (and_intros<;>first|trivial|rfl), fun b hb => ?_, trivial⟩
      obtain ⟨k', j', m, i1, i2, i3⟩ := hb; obtain ⟨rfl, rfl⟩ := isG_inj hi i1; obtain ⟨-, -, -, -, -, -, -, -, b9, b10, b11⟩ := flG_of i3; (repeat(apply And.intro;focus(and_intros<;>first|trivial|rfl)))
      refine ⟨⟨b⟩, ⟨k, j, m, hi, by rw [act_show w0 i2], i3⟩, ?_⟩
      (and_intros<;>first|trivial|rfl)
    · have hn : ¬ 0 < (gpos k j).r1 := fun h => hu ⟨by rw [hi.2.2]; exact h, w0⟩
      (repeat(apply And.intro;focus(and_intros<;>first|trivial|rfl)))
      refine ⟨⟨trivial, k, j, hi⟩, by (and_intros<;>first|trivial|rfl), fun t ht => ?_, trivial⟩
      obtain ⟨k', j', hi', ht⟩ := ht
      obtain ⟨rfl, rfl⟩ := isG_inj hi hi'
      (repeat(apply And.intro;focus(and_intros<;>first|trivial|rfl)))
      refine ⟨⟨trivial, hz, k, j, hi⟩, by (and_intros<;>first|trivial|rfl), fun b hb => ?_, fun e he => ?_, trivial⟩
      · obtain ⟨k', j', m, i1, i2, i3⟩ := hb; obtain ⟨rfl, rfl⟩ := isG_inj hi i1; obtain ⟨-, -, -, -, -, -, -, -, b9, b10, b11⟩ := flG_of i3; (repeat(apply And.intro;focus(and_intros<;>first|trivial|rfl)))
        refine ⟨⟨b⟩, ⟨k, j, m, hi, by rw [act_turn w0 hn, ← ht]; exact i2, i3⟩, ?_⟩
        (and_intros<;>first|trivial|rfl)
      · obtain ⟨e0, k', j', i1, i2⟩ := he; obtain ⟨rfl, rfl⟩ := isG_inj hi i1; (repeat(apply And.intro;focus(and_intros<;>first|trivial|rfl)))
        refine ⟨fun h => absurd (show e.k = 0 from h) (by omega), fun _ => ⟨e, ⟨by omega, fun _ => ⟨e0, k, j, hi, by rw [act_turn w0 hn, ← ht]; exact i2⟩⟩, ?_⟩⟩
        (and_intros<;>first|trivial|rfl)
  · have w1 : a.w % 5 = 1 := by omega
    (repeat(apply And.intro;focus(and_intros<;>first|trivial|rfl)))
    refine ⟨⟨trivial, hw, k, j, hi.1, hi.2.2⟩, by (and_intros<;>first|trivial|rfl), fun d hd => ?_, fun u hu => ?_, trivial⟩
    · have hd : a.w % 5 = 0 ∧ _ := hd
      omega
    · (repeat(apply And.intro;focus(and_intros<;>first|trivial|rfl)))
      refine ⟨⟨trivial, hz, k, j, hi⟩, by (and_intros<;>first|trivial|rfl), fun b hb => ?_, fun e he => ?_, trivial⟩
      · obtain ⟨k', j', m, i1, i2, i3⟩ := hb; obtain ⟨rfl, rfl⟩ := isG_inj hi i1; obtain ⟨-, -, -, -, -, -, -, -, b9, b10, b11⟩ := flG_of i3; (repeat(apply And.intro;focus(and_intros<;>first|trivial|rfl)))
        refine ⟨⟨b⟩, ⟨k, j, m, hi, by rw [act_do w1]; exact i2, i3⟩, ?_⟩
        (and_intros<;>first|trivial|rfl)
      · obtain ⟨e0, k', j', i1, i2⟩ := he; obtain ⟨rfl, rfl⟩ := isG_inj hi i1; (repeat(apply And.intro;focus(and_intros<;>first|trivial|rfl)))
        refine ⟨fun h => absurd (show e.k = 0 from h) (by omega), fun _ => ⟨e, ⟨by omega, fun _ => ⟨e0, k, j, hi, by rw [act_do w1]; exact i2⟩⟩, ?_⟩⟩
        (and_intros<;>first|trivial|rfl)
  · have w2 : a.w % 5 = 2 := by omega
    (repeat(apply And.intro;focus(and_intros<;>first|trivial|rfl)))
    refine ⟨⟨trivial, k, j, hi⟩, by (and_intros<;>first|trivial|rfl), fun b hb => ?_, fun e he => ?_, trivial⟩
    · obtain ⟨k', j', m, i1, i2, i3⟩ := hb; obtain ⟨rfl, rfl⟩ := isG_inj hi i1; obtain ⟨-, -, -, -, -, -, -, -, b9, b10, b11⟩ := flG_of i3; (repeat(apply And.intro;focus(and_intros<;>first|trivial|rfl)))
      refine ⟨⟨b⟩, ⟨k, j, m, hi, by rw [act_sil w2]; exact i2, i3⟩, ?_⟩
      (and_intros<;>first|trivial|rfl)
    · obtain ⟨e0, k', j', i1, i2⟩ := he; obtain ⟨rfl, rfl⟩ := isG_inj hi i1; (repeat(apply And.intro;focus(and_intros<;>first|trivial|rfl)))
      refine ⟨fun h => absurd (show e.k = 0 from h) (by omega), fun _ => ⟨e, ⟨by omega, fun _ => ⟨e0, k, j, hi, by rw [act_sil w2]; exact i2⟩⟩, ?_⟩⟩
      (and_intros<;>first|trivial|rfl)
  · have w3 : a.w % 5 = 3 := by omega
    (repeat(apply And.intro;focus(and_intros<;>first|trivial|rfl)))
    refine ⟨⟨trivial, hh⟩, by (and_intros<;>first|trivial|rfl), fun r hr => ?_, trivial⟩
    obtain ⟨k2, -, -, hi2⟩ := hr
    obtain ⟨g1, g2, g3, g4, g5, g6, g7, g8, g9, g10, g11⟩ := flG_of hi2
    (repeat(apply And.intro;focus(and_intros<;>first|trivial|rfl)))
    refine ⟨⟨trivial, ⟨⟨k, j, hi⟩, k2, 0, hi2⟩, hs, htwo⟩, by (and_intros<;>first|trivial|rfl), fun b hb => ?_, fun e he => ?_, trivial⟩
    · (repeat(apply And.intro;focus(and_intros<;>first|trivial|rfl)))
      refine ⟨⟨r.g, r.p, b⟩, ⟨w3, ⟨k2, 0, hi2⟩, hb.2⟩, ?_⟩
      (and_intros<;>first|trivial|rfl)
    · (repeat(apply And.intro;focus(and_intros<;>first|trivial|rfl)))
      refine ⟨e, ⟨er_ne he, fun h => absurd h (by omega)⟩, ?_⟩
      (and_intros<;>first|trivial|rfl)
  · have w4 : a.w % 5 = 4 := by omega
    (repeat(apply And.intro;focus(and_intros<;>first|trivial|rfl)))
    refine ⟨fun _ _ => ?_, trivial⟩
    (repeat(apply And.intro;focus(and_intros<;>first|trivial|rfl)))
    refine ⟨⟨9⟩, ⟨by decide, fun h => absurd h (by omega)⟩, ?_⟩
    (and_intros<;>first|trivial|rfl)
theorem s_do1 : SpecOK Tryz.prog S_do1.spec := fun a => specG_at (S := S_do1) (an := []) envOK cwDo1_ok fun hp => g_do1 a hp
end Go.Proofs.YtfkacmmcgncooaaGreatDoor

namespace Go.Proofs.YtfkacmmcgncooaaGreatDoor
open Go.Ev
set_option linter.unusedSectionVars false
variable [Go.Ev.Frozen Tryz.prog]
noncomputable section
def W_G_do2_0 : DoA → Option AO := fun (a : DoA) => some (AO.row ([Zp 14 0, sc 26 2, sc 27 2, sc 28 2, tgI .i64 a.1.1.1, tgI .i64 a.1.1.2, tgI .i64 a.1.1.3, tgI .i64 a.1.1.4, tgI
 .u64 a.1.1.5, sc 29 2] ++ ([Zp 30 0, sc 42 2, sc 43 2, sc 44 2, tgI .i64 a.1.5.4, tgI .i64 a.1.5.5, tgI .i64 a.1.5.6, tgI .i64 a.1.5.7, tgI .u64 a.1.5.8, sc 45 2] ++ [])) 83
 (Md.grown 2))
def W_G_do2_1 : DoA → Option AO := fun (a : DoA) => some (AO.row [Zp 30 0, Value.slice (some (Addr.mk (Nat.add (Nat.succ (Nat.succ (Nat.succ (30 + 16)))) 0) 0 none)) 2 2,
 Value.slice (some (Addr.mk (Nat.add (Nat.succ (Nat.succ (Nat.succ (30 + 16)))) 1) 0 none)) 2 2, Value.slice (some (Addr.mk (Nat.add (Nat.succ (Nat.succ (Nat.succ (30 + 16)))) 2) 0
 none)) 2 2, tgI .i64 a.1.5.4, tgI .i64 a.1.5.5, tgI .i64 a.1.5.6, tgI .i64 a.1.5.7, tgI .u64 a.1.5.8, Value.slice (some (Addr.mk (Nat.add (Nat.add (Nat.succ (Nat.succ (Nat.succ (30
 + 16)))) (Nat.sub (12 + 6) 15)) 0) 0 none)) 2 2] 83 Md.own)
end
set_option maxHeartbeats 3200000 in
theorem vc_do2 (a : DoA) : G_do2 a = ((True ∧ QYd11P_37 a.1.5) ∧ QYd11P_67 a.1.5 ∧ (∀ (_ : Unit), True → QYd11P_25 a.1 ∧ QYd11P_28 a.1 ∧ (∀ (x5 : XyB), QYd11P_51 a.1 x5 → ((True ∧ True ∧ True) ∧ (True ∧ True ∧ True) ∧
(True ∧ True ∧ True) ∧ (W_G_do2_0 a = W_G_do2_0 a ∧ W_G_do2_0 a = W_G_do2_0 a ∧ True) ∧ True ∧ True ∧ True ∧ True ∧ True ∧ (True ∧ True) ∧ (True ∧ True) ∧ (True ∧ True) ∧
(W_G_do2_0 a = W_G_do2_0 a ∧ True) ∧ True ∧ True ∧ True ∧ True) ∧ (True ∧ True ∧ True ∧ (True ∧ True) ∧ (W_G_do2_1 a = W_G_do2_1 a ∧ True) ∧ (True ∧ True) ∧ (W_G_do2_1 a =
W_G_do2_1 a ∧ True) ∧ True ∧ True ∧ True ∧ True) ∧ (5 : Int) ≠ (0 : Int) ∧ ∀ (x6 : Int), x6 = Int.tmod a.2 (5 : Int) → (x6 = (0 : Int) → QYd11P_20 a ∧ QYd11P_9 a ∧ QYd11P_57 a ∧ (∀
(_ : Unit), QYd11P_46 a → QYd11P_12 ∧ (True ∧ (∃ (x25 x26 : Nat), isG a.1.4 a.1.5 x25 x26)) ∧ QYd11P_70 a.1 ∧ (∀ (x27 : TnB), QYd11P_73 a.1 x27.1 → QYd11P_41 ∧ QYd11P_62 a a.1.5
x27.1 a.1.4 a.4) ∧ True) ∧ True) ∧ (¬(x6 = (0 : Int)) → (x6 = (1 : Int) → QYd11P_20 a ∧ QYd11P_9 a ∧ QYd11P_57 a ∧ (∀ (_ : Unit), QYd11P_46 a → QYd11P_62 a a.1.5 a.3 a.1.4 a.4) ∧
True) ∧ (¬(x6 = (1 : Int)) → (x6 = (2 : Int) → QYd11P_12 ∧ (True ∧ (∃ (x86 x87 : Nat), isG a.1.4 a.1.5 x86 x87)) ∧ QYd11P_53 a ∧ (∀ (x88 : PoA), QYd11P_45 a x88 → QYd11P_3 ∧
QYd11P_10 a x88) ∧ (∀ (x96 : TnB), QYd11P_54 x96.1 a → QYd11P_3 ∧ QYd11P_18 x96.1 a) ∧ True) ∧ (¬(x6 = (2 : Int)) → (x6 = (3 : Int) → (True ∧ 0 ≤ a.5 ∧ a.5 < 256) ∧ ((Z1 a.5 ∧
True) ∧ QYd11P_31) ∧ (∀ (x105 : GtA), QYd11P_50 a.5 x105 → QYd11P_60 a x105 ∧ (QYd11P_47 x105.2 a ∧ (True ∧ Z2 ∧ True) ∧ (2 = 2 ∧ QYd11P_13 a.1.1.1 a.1.1.2 a.1.1.3 a.1.1.4 a.1.1.5
a.1.5) ∧ (2 = 2 ∧ Z1 a.1.1.6 ∧ Z1 a.1.1.7 ∧ True) ∧ (2 = 2 ∧ Z1 a.1.6 ∧ Z1 a.1.7 ∧ True) ∧ (True ∧ True) ∧ (True ∧ True) ∧ (True ∧ True) ∧ (True ∧ True) ∧ QYd11P_15 a.1 x105) ∧ (∀
(x107 : XyB), partX a.6 a.7 x107 ∧ fitsQ (StA.mk a.1.1 (OuA.mk (0 : Int) (0 : Int) (0 : Int) (0 : Int) (0 : Int) (0 : Int) (0 : Int)) (OuA.mk (0 : Int) (0 : Int) (0 : Int) (0 :
Int) (0 : Int) (0 : Int) (0 : Int)) a.1.4 a.1.5 a.1.6 a.1.7) x107 → ∃ (x108 : BgB), (a.2 % (5 : Int) = 3 ∧ isGx x108.1 x108.2 ∧ fitsQ a.1 x108.3) ∧ (0 : Int) = 0 ∧ (True ∧ (0 = 0 ∧
3 = 3 ∧ 3 = 3) ∧ True) ∧ (3 = 3 ∧ 0 = 0 ∧ Z2 ∧ Z2 ∧ Z2 ∧ Z1 a.1.1.1 ∧ Z1 a.1.1.2 ∧ Z1 a.1.1.3 ∧ Z1 a.1.1.4 ∧ Z1 a.1.1.5 ∧ Z2 ∧ QYd11P_68 a.1.5 x108.2 x105.2) ∧ (2 = 2 ∧ Z1 a.1.1.6
∧ Z1 a.1.1.7 ∧ True) ∧ QYd11P_6 a.1 x108 x107 x105) ∧ (∀ (x109 : TnB), x109.1 = 2 ∨ x109.1 = 3 ∨ x109.1 = 10 ∨ x109.1 = 21 → ∃ (x110 : TnB), QYd11P_5 x110.1 a ∧ x110.1 = x109.1 ∧
QYd11P_40 a.1) ∧ True) ∧ True) ∧ (¬(x6 = (3 : Int)) → (True ∧ isGx a.1.4 a.1.5 ∧ (smQ a.1.6 ∧ smQ a.1.7) ∧ smQ a.1.1.6 ∧ smQ a.1.1.7) ∧ ((0 = 0 ∧ True) ∧ (True ∧ Z2 ∧ True) ∧ (2 =
2 ∧ QYd11P_13 a.1.1.1 a.1.1.2 a.1.1.3 a.1.1.4 a.1.1.5 a.1.5) ∧ (2 = 2 ∧ Z1 a.1.1.6 ∧ Z1 a.1.1.7 ∧ True) ∧ (2 = 2 ∧ Z1 a.1.6 ∧ Z1 a.1.7 ∧ True) ∧ QYd11P_65 a.1) ∧ (∀ (x113 : XyB),
QYd11P_55 a.1 x113 → ∃ (x116 : XyB), (a.2 % (5 : Int) = 4 ∧ popQ a.1 x116) ∧ (0 : Int) = 0 ∧ (True ∧ (0 = 0 ∧ 1 = 1 ∧ 1 = 1) ∧ True) ∧ (1 = 1 ∧ QYd11P_66 a.1.1) ∧ QYd11P_71 a.1.1
x116 x113) ∧ (∀ (_ : Unit), (∃ (x118 x119 : Nat), isG a.1.4 a.1.5 x118 x119 ∧ (0 : Int) ≤ turnG x118 x119) → ∃ (x120 : TnB), QYd11P_5 x120.1 a ∧ x120.1 = 10 ∧ QYd11P_40 a.1) ∧
True))))) ∧ True) ∧ True) := by kernel_rfl
set_option maxHeartbeats 1600000 in
theorem g_do2 (a : DoA) (hp : doP 2 a) : GW (G_do2 a) := by
  obtain ⟨⟨k, j, hi⟩, ⟨hs, ho⟩, ⟨hw, hz, hh⟩, htwo⟩ := hp
  obtain ⟨f1, f2, f3, f4, f5, f6, f7, f8, f9, f10, f11⟩ := flG_of hi
  have f12 := fl11
  have f13 := fl00
  have f14 := fl2t a.s.x a.s.y
  have gl0 : FlatL cells0 := flatAll (by kernel_rfl)
  have gl1 : FlatL cells1 := flatAll (by kernel_rfl)
  have gl2 : FlatL cells2 := flatAll (by kernel_rfl)
  have gl4 : FlatL cells4 := flatAll (by kernel_rfl)
  have gl5 : FlatL cells5 := flatAll (by kernel_rfl)
  have gl6 : FlatL cells6 := flatAll (by kernel_rfl)
  have gl8 : FlatL cells8 := flatAll (by kernel_rfl)
  have gl9 : FlatL cells9 := flatAll (by kernel_rfl)
  have gl10 : FlatL cells10 := flatAll (by kernel_rfl)
  refine ⟨?_⟩
  rw [vc_do2]
  (repeat(apply And.intro;focus(and_intros<;>first|trivial|rfl)))
  refine ⟨⟨trivial, k, j, hi.1, hi.2.2⟩, by (and_intros<;>first|trivial|rfl), fun _ _ => ?_, trivial⟩
  (repeat(apply And.intro;focus(and_intros<;>first|trivial|rfl)))
  refine ⟨⟨trivial, ⟨Nat.le_refl _, Nat.le_refl _, f14⟩, a.s.x, a.s.y, rfl⟩, by (and_intros<;>first|trivial|rfl), fun q _ => ?_, trivial⟩
  (repeat(apply And.intro;focus(and_intros<;>first|trivial|rfl)))
  intro x6 e6
  have e6 : x6 = a.w % 5 := by rw [e6]; exact Int.tmod_eq_emod_of_nonneg hw.1
  refine ⟨fun h0 => ?_, fun h0 => ⟨fun h1 => ?_, fun h1 => ⟨fun h2 => ?_, fun h2 => ⟨fun h3 => ?_, fun h3 => ?_⟩⟩⟩⟩
  · have w0 : a.w % 5 = 0 := by omega
    (repeat(apply And.intro;focus(and_intros<;>first|trivial|rfl)))
    refine ⟨⟨trivial, hw, k, j, hi.1, hi.2.2⟩, by (and_intros<;>first|trivial|rfl), fun d hd => ?_, fun u hu => ?_, trivial⟩
    · obtain ⟨-, k2, j2, r, hm2, hp2, hs2⟩ := hd
      have hs2 : (k2, j2, a.s.p.r3, d.l, r) ∈ showT := hs2
      have hs2 := show_here hi hm2 hp2 hs2
      (repeat(apply And.intro;focus(and_intros<;>first|trivial|rfl)))
      refine ⟨⟨trivial, k, j, r, hi, hs2⟩, by (and_intros<;>first|trivial|rfl), fun b hb => ?_, trivial⟩
      obtain ⟨k', j', m, i1, i2, i3⟩ := hb; obtain ⟨rfl, rfl⟩ := isG_inj hi i1; obtain ⟨-, -, -, -, -, -, -, -, b9, b10, b11⟩ := flG_of i3; (repeat(apply And.intro;focus(and_intros<;>first|trivial|rfl)))
      refine ⟨⟨b⟩, ⟨k, j, m, hi, by rw [act_show w0 i2], i3⟩, ?_⟩
      (and_intros<;>first|trivial|rfl)
    · have hn : ¬ 0 < (gpos k j).r1 := fun h => hu ⟨by rw [hi.2.2]; exact h, w0⟩
      (repeat(apply And.intro;focus(and_intros<;>first|trivial|rfl)))
      refine ⟨⟨trivial, k, j, hi⟩, by (and_intros<;>first|trivial|rfl), fun t ht => ?_, trivial⟩
      obtain ⟨k', j', hi', ht⟩ := ht
      obtain ⟨rfl, rfl⟩ := isG_inj hi hi'
      (repeat(apply And.intro;focus(and_intros<;>first|trivial|rfl)))
      refine ⟨⟨trivial, hz, k, j, hi⟩, by (and_intros<;>first|trivial|rfl), fun b hb => ?_, fun e he => ?_, trivial⟩
      · obtain ⟨k', j', m, i1, i2, i3⟩ := hb; obtain ⟨rfl, rfl⟩ := isG_inj hi i1; obtain ⟨-, -, -, -, -, -, -, -, b9, b10, b11⟩ := flG_of i3; (repeat(apply And.intro;focus(and_intros<;>first|trivial|rfl)))
        refine ⟨⟨b⟩, ⟨k, j, m, hi, by rw [act_turn w0 hn, ← ht]; exact i2, i3⟩, ?_⟩
        (and_intros<;>first|trivial|rfl)
      · obtain ⟨e0, k', j', i1, i2⟩ := he; obtain ⟨rfl, rfl⟩ := isG_inj hi i1; (repeat(apply And.intro;focus(and_intros<;>first|trivial|rfl)))
        refine ⟨fun h => absurd (show e.k = 0 from h) (by omega), fun _ => ⟨e, ⟨by omega, fun _ => ⟨e0, k, j, hi, by rw [act_turn w0 hn, ← ht]; exact i2⟩⟩, ?_⟩⟩
        (and_intros<;>first|trivial|rfl)
  · have w1 : a.w % 5 = 1 := by omega
    (repeat(apply And.intro;focus(and_intros<;>first|trivial|rfl)))
    refine ⟨⟨trivial, hw, k, j, hi.1, hi.2.2⟩, by (and_intros<;>first|trivial|rfl), fun d hd => ?_, fun u hu => ?_, trivial⟩
    · have hd : a.w % 5 = 0 ∧ _ := hd
      omega
    · (repeat(apply And.intro;focus(and_intros<;>first|trivial|rfl)))
      refine ⟨⟨trivial, hz, k, j, hi⟩, by (and_intros<;>first|trivial|rfl), fun b hb => ?_, fun e he => ?_, trivial⟩
      · obtain ⟨k', j', m, i1, i2, i3⟩ := hb; obtain ⟨rfl, rfl⟩ := isG_inj hi i1; obtain ⟨-, -, -, -, -, -, -, -, b9, b10, b11⟩ := flG_of i3; (repeat(apply And.intro;focus(and_intros<;>first|trivial|rfl)))
        refine ⟨⟨b⟩, ⟨k, j, m, hi, by rw [act_do w1]; exact i2, i3⟩, ?_⟩
        (and_intros<;>first|trivial|rfl)
      · obtain ⟨e0, k', j', i1, i2⟩ := he; obtain ⟨rfl, rfl⟩ := isG_inj hi i1; (repeat(apply And.intro;focus(and_intros<;>first|trivial|rfl)))
        refine ⟨fun h => absurd (show e.k = 0 from h) (by omega), fun _ => ⟨e, ⟨by omega, fun _ => ⟨e0, k, j, hi, by rw [act_do w1]; exact i2⟩⟩, ?_⟩⟩
        (and_intros<;>first|trivial|rfl)
  · have w2 : a.w % 5 = 2 := by omega
    (repeat(apply And.intro;focus(and_intros<;>first|trivial|rfl)))
    refine ⟨⟨trivial, k, j, hi⟩, by (and_intros<;>first|trivial|rfl), fun b hb => ?_, fun e he => ?_, trivial⟩
    · obtain ⟨k', j', m, i1, i2, i3⟩ := hb; obtain ⟨rfl, rfl⟩ := isG_inj hi i1; obtain ⟨-, -, -, -, -, -, -, -, b9, b10, b11⟩ := flG_of i3; (repeat(apply And.intro;focus(and_intros<;>first|trivial|rfl)))
      refine ⟨⟨b⟩, ⟨k, j, m, hi, by rw [act_sil w2]; exact i2, i3⟩, ?_⟩
      (and_intros<;>first|trivial|rfl)
    · obtain ⟨e0, k', j', i1, i2⟩ := he; obtain ⟨rfl, rfl⟩ := isG_inj hi i1; (repeat(apply And.intro;focus(and_intros<;>first|trivial|rfl)))
      refine ⟨fun h => absurd (show e.k = 0 from h) (by omega), fun _ => ⟨e, ⟨by omega, fun _ => ⟨e0, k, j, hi, by rw [act_sil w2]; exact i2⟩⟩, ?_⟩⟩
      (and_intros<;>first|trivial|rfl)
  · have w3 : a.w % 5 = 3 := by omega
    (repeat(apply And.intro;focus(and_intros<;>first|trivial|rfl)))
    refine ⟨⟨trivial, hh⟩, by (and_intros<;>first|trivial|rfl), fun r hr => ?_, trivial⟩
    obtain ⟨k2, -, -, hi2⟩ := hr
    obtain ⟨g1, g2, g3, g4, g5, g6, g7, g8, g9, g10, g11⟩ := flG_of hi2
    (repeat(apply And.intro;focus(and_intros<;>first|trivial|rfl)))
    refine ⟨⟨trivial, ⟨⟨k, j, hi⟩, k2, 0, hi2⟩, hs, htwo⟩, by (and_intros<;>first|trivial|rfl), fun b hb => ?_, fun e he => ?_, trivial⟩
    · (repeat(apply And.intro;focus(and_intros<;>first|trivial|rfl)))
      refine ⟨⟨r.g, r.p, b⟩, ⟨w3, ⟨k2, 0, hi2⟩, hb.2⟩, ?_⟩
      (and_intros<;>first|trivial|rfl)
    · (repeat(apply And.intro;focus(and_intros<;>first|trivial|rfl)))
      refine ⟨e, ⟨er_ne he, fun h => absurd h (by omega)⟩, ?_⟩
      (and_intros<;>first|trivial|rfl)
  · have w4 : a.w % 5 = 4 := by omega
    (repeat(apply And.intro;focus(and_intros<;>first|trivial|rfl)))
    refine ⟨⟨trivial, ⟨k, j, hi⟩, hs, ho⟩, by (and_intros<;>first|trivial|rfl), fun b hb => ?_, fun u hu => ?_, trivial⟩
    · (repeat(apply And.intro;focus(and_intros<;>first|trivial|rfl)))
      refine ⟨b, ⟨w4, hb⟩, ?_⟩
      (and_intros<;>first|trivial|rfl)
    · (repeat(apply And.intro;focus(and_intros<;>first|trivial|rfl)))
      refine ⟨⟨10⟩, ⟨by decide, fun h => absurd h (by omega)⟩, ?_⟩
      (and_intros<;>first|trivial|rfl)
theorem s_do2 : SpecOK Tryz.prog S_do2.spec := fun a => specG_at (S := S_do2) (an := []) envOK cwDo2_ok fun hp => g_do2 a hp
end Go.Proofs.YtfkacmmcgncooaaGreatDoor

namespace Go.Proofs.YtfkacmmcgncooaaGreatDoor
open Go.Ev
set_option linter.unusedSectionVars false
variable [Go.Ev.Frozen Tryz.prog]
noncomputable section
def W_G_do3_0 : DoA → Option AO := fun (a : DoA) => some (AO.row ([Zp 14 0, sc 26 2, sc 27 2, sc 28 2, tgI .i64 a.1.1.1, tgI .i64 a.1.1.2, tgI .i64 a.1.1.3, tgI .i64 a.1.1.4, tgI
 .u64 a.1.1.5, sc 29 2] ++ ([Zp 30 0, sc 42 2, sc 43 2, sc 44 2, tgI .i64 a.1.2.1, tgI .i64 a.1.2.2, tgI .i64 a.1.2.3, tgI .i64 a.1.2.4, tgI .u64 a.1.2.5, sc 45 2] ++ ([Zp 46 0, sc
 58 2, sc 59 2, sc 60 2, tgI .i64 a.1.5.4, tgI .i64 a.1.5.5, tgI .i64 a.1.5.6, tgI .i64 a.1.5.7, tgI .u64 a.1.5.8, sc 61 2] ++ []))) 83 (Md.grown 3))
def W_G_do3_1 : DoA → Option AO := fun (a : DoA) => some (AO.row [Zp 46 0, Value.slice (some (Addr.mk (Nat.add (Nat.succ (Nat.succ (Nat.succ (46 + 16)))) 0) 0 none)) 2 2,
 Value.slice (some (Addr.mk (Nat.add (Nat.succ (Nat.succ (Nat.succ (46 + 16)))) 1) 0 none)) 2 2, Value.slice (some (Addr.mk (Nat.add (Nat.succ (Nat.succ (Nat.succ (46 + 16)))) 2) 0
 none)) 2 2, tgI .i64 a.1.5.4, tgI .i64 a.1.5.5, tgI .i64 a.1.5.6, tgI .i64 a.1.5.7, tgI .u64 a.1.5.8, Value.slice (some (Addr.mk (Nat.add (Nat.add (Nat.succ (Nat.succ (Nat.succ (46
 + 16)))) (Nat.sub (12 + 6) 15)) 0) 0 none)) 2 2] 83 Md.own)
end
set_option maxHeartbeats 3200000 in
theorem vc_do3 (a : DoA) : G_do3 a = ((True ∧ QYd11P_37 a.1.5) ∧ QYd11P_67 a.1.5 ∧ (∀ (_ : Unit), True → QYd11P_25 a.1 ∧ QYd11P_28 a.1 ∧ (∀ (x5 : XyB), QYd11P_51 a.1 x5 → ((True ∧ True ∧ True) ∧ (True ∧ True ∧ True) ∧
(True ∧ True ∧ True) ∧ (W_G_do3_0 a = W_G_do3_0 a ∧ W_G_do3_0 a = W_G_do3_0 a ∧ True) ∧ True ∧ True ∧ True ∧ True ∧ True ∧ (True ∧ True) ∧ (True ∧ True) ∧ (True ∧ True) ∧
(W_G_do3_0 a = W_G_do3_0 a ∧ True) ∧ True ∧ True ∧ True ∧ True) ∧ (True ∧ True ∧ True ∧ (True ∧ True) ∧ (W_G_do3_1 a = W_G_do3_1 a ∧ True) ∧ (True ∧ True) ∧ (W_G_do3_1 a =
W_G_do3_1 a ∧ True) ∧ True ∧ True ∧ True ∧ True) ∧ (5 : Int) ≠ (0 : Int) ∧ ∀ (x6 : Int), x6 = Int.tmod a.2 (5 : Int) → (x6 = (0 : Int) → QYd11P_20 a ∧ QYd11P_9 a ∧ QYd11P_58 a ∧ (∀
(_ : Unit), QYd11P_46 a → QYd11P_12 ∧ (True ∧ (∃ (x25 x26 : Nat), isG a.1.4 a.1.5 x25 x26)) ∧ QYd11P_70 a.1 ∧ (∀ (x27 : TnB), QYd11P_73 a.1 x27.1 → QYd11P_41 ∧ QYd11P_63 a a.1.5
x27.1 a.1.4 a.4) ∧ True) ∧ True) ∧ (¬(x6 = (0 : Int)) → (x6 = (1 : Int) → QYd11P_20 a ∧ QYd11P_9 a ∧ QYd11P_58 a ∧ (∀ (_ : Unit), QYd11P_46 a → QYd11P_63 a a.1.5 a.3 a.1.4 a.4) ∧
True) ∧ (¬(x6 = (1 : Int)) → (x6 = (2 : Int) → QYd11P_12 ∧ (True ∧ (∃ (x86 x87 : Nat), isG a.1.4 a.1.5 x86 x87)) ∧ QYd11P_53 a ∧ (∀ (x88 : PoA), QYd11P_45 a x88 → QYd11P_3 ∧
QYd11P_7 a x88) ∧ (∀ (x96 : TnB), QYd11P_54 x96.1 a → QYd11P_3 ∧ QYd11P_11 x96.1 a) ∧ True) ∧ (¬(x6 = (2 : Int)) → (x6 = (3 : Int) → (True ∧ 0 ≤ a.5 ∧ a.5 < 256) ∧ ((Z1 a.5 ∧ True)
∧ QYd11P_31) ∧ (∀ (x105 : GtA), QYd11P_50 a.5 x105 → QYd11P_60 a x105 ∧ (QYd11P_47 x105.2 a ∧ (True ∧ (0 = 0 ∧ 3 = 3 ∧ 3 = 3) ∧ True) ∧ QYd11P_42 a.1 ∧ (2 = 2 ∧ Z1 a.1.1.6 ∧ Z1
a.1.1.7 ∧ True) ∧ (2 = 2 ∧ Z1 a.1.2.6 ∧ Z1 a.1.2.7 ∧ True) ∧ (2 = 2 ∧ Z1 a.1.6 ∧ Z1 a.1.7 ∧ True) ∧ (True ∧ True) ∧ (True ∧ True) ∧ (True ∧ True) ∧ (True ∧ True) ∧ (True ∧ True) ∧
(True ∧ True) ∧ (True ∧ True) ∧ (True ∧ True) ∧ QYd11P_15 a.1 x105) ∧ (∀ (x107 : XyB), partX a.6 a.7 x107 ∧ fitsQ (StA.mk a.1.1 a.1.2 (OuA.mk (0 : Int) (0 : Int) (0 : Int) (0 :
Int) (0 : Int) (0 : Int) (0 : Int)) a.1.4 a.1.5 a.1.6 a.1.7) x107 → ∃ (x108 : BgB), (a.2 % (5 : Int) = 3 ∧ isGx x108.1 x108.2 ∧ fitsQ a.1 x108.3) ∧ (0 : Int) = 0 ∧ (True ∧ (0 = 0 ∧
4 = 4 ∧ 4 = 4) ∧ True) ∧ (4 = 4 ∧ 0 = 0 ∧ Z2 ∧ Z2 ∧ Z2 ∧ Z1 a.1.1.1 ∧ Z1 a.1.1.2 ∧ Z1 a.1.1.3 ∧ Z1 a.1.1.4 ∧ Z1 a.1.1.5 ∧ Z2 ∧ 0 = 0 ∧ Z2 ∧ Z2 ∧ Z2 ∧ Z1 a.1.2.1 ∧ Z1 a.1.2.2 ∧ Z1
a.1.2.3 ∧ Z1 a.1.2.4 ∧ Z1 a.1.2.5 ∧ Z2 ∧ QYd11P_68 a.1.5 x108.2 x105.2) ∧ (2 = 2 ∧ Z1 a.1.1.6 ∧ Z1 a.1.1.7 ∧ True) ∧ (2 = 2 ∧ Z1 a.1.2.6 ∧ Z1 a.1.2.7 ∧ True) ∧ QYd11P_6 a.1 x108
x107 x105) ∧ (∀ (x109 : TnB), x109.1 = 2 ∨ x109.1 = 3 ∨ x109.1 = 10 ∨ x109.1 = 21 → ∃ (x110 : TnB), QYd11P_5 x110.1 a ∧ x110.1 = x109.1 ∧ QYd11P_26 a.1) ∧ True) ∧ True) ∧ (¬(x6 =
(3 : Int)) → (True ∧ isGx a.1.4 a.1.5 ∧ (smQ a.1.6 ∧ smQ a.1.7) ∧ smQ a.1.2.6 ∧ smQ a.1.2.7) ∧ ((0 = 0 ∧ True) ∧ (True ∧ (0 = 0 ∧ 3 = 3 ∧ 3 = 3) ∧ True) ∧ QYd11P_42 a.1 ∧ (2 = 2 ∧
Z1 a.1.1.6 ∧ Z1 a.1.1.7 ∧ True) ∧ (2 = 2 ∧ Z1 a.1.2.6 ∧ Z1 a.1.2.7 ∧ True) ∧ (2 = 2 ∧ Z1 a.1.6 ∧ Z1 a.1.7 ∧ True) ∧ (True ∧ True) ∧ (True ∧ True) ∧ (True ∧ True) ∧ (True ∧ True) ∧
QYd11P_65 a.1) ∧ (∀ (x113 : XyB), QYd11P_55 a.1 x113 → ∃ (x116 : XyB), (a.2 % (5 : Int) = 4 ∧ popQ a.1 x116) ∧ (0 : Int) = 0 ∧ (True ∧ Z2 ∧ True) ∧ (2 = 2 ∧ 0 = 0 ∧ Z2 ∧ Z2 ∧ Z2 ∧
Z1 a.1.1.1 ∧ Z1 a.1.1.2 ∧ Z1 a.1.1.3 ∧ Z1 a.1.1.4 ∧ Z1 a.1.1.5 ∧ Z2 ∧ QYd11P_66 a.1.2) ∧ (2 = 2 ∧ Z1 a.1.1.6 ∧ Z1 a.1.1.7 ∧ True) ∧ QYd11P_71 a.1.2 x116 x113) ∧ (∀ (_ : Unit), (∃
(x118 x119 : Nat), isG a.1.4 a.1.5 x118 x119 ∧ (0 : Int) ≤ turnG x118 x119) → ∃ (x120 : TnB), QYd11P_5 x120.1 a ∧ x120.1 = 10 ∧ QYd11P_26 a.1) ∧ True))))) ∧ True) ∧ True) := by kernel_rfl
set_option maxHeartbeats 1600000 in
theorem g_do3 (a : DoA) (hp : doP 3 a) : GW (G_do3 a) := by
  obtain ⟨⟨k, j, hi⟩, ⟨hs, ho⟩, ⟨hw, hz, hh⟩, htwo⟩ := hp
  obtain ⟨f1, f2, f3, f4, f5, f6, f7, f8, f9, f10, f11⟩ := flG_of hi
  have f12 := fl11
  have f13 := fl00
  have f14 := fl2t a.s.x a.s.y
  have gl0 : FlatL cells0 := flatAll (by kernel_rfl)
  have gl1 : FlatL cells1 := flatAll (by kernel_rfl)
  have gl2 : FlatL cells2 := flatAll (by kernel_rfl)
  have gl4 : FlatL cells4 := flatAll (by kernel_rfl)
  have gl5 : FlatL cells5 := flatAll (by kernel_rfl)
  have gl6 : FlatL cells6 := flatAll (by kernel_rfl)
  have gl8 : FlatL cells8 := flatAll (by kernel_rfl)
  have gl9 : FlatL cells9 := flatAll (by kernel_rfl)
  have gl10 : FlatL cells10 := flatAll (by kernel_rfl)
  refine ⟨?_⟩
  rw [vc_do3]
  (repeat(apply And.intro;focus(and_intros<;>first|trivial|rfl)))
  refine ⟨⟨trivial, k, j, hi.1, hi.2.2⟩, by (and_intros<;>first|trivial|rfl), fun _ _ => ?_, trivial⟩
  (repeat(apply And.intro;focus(and_intros<;>first|trivial|rfl)))
  refine ⟨⟨trivial, ⟨Nat.le_refl _, Nat.le_refl _, f14⟩, a.s.x, a.s.y, rfl⟩, by (and_intros<;>first|trivial|rfl), fun q _ => ?_, trivial⟩
  (repeat(apply And.intro;focus(and_intros<;>first|trivial|rfl)))
  intro x6 e6
  have e6 : x6 = a.w % 5 := by rw [e6]; exact Int.tmod_eq_emod_of_nonneg hw.1
  refine ⟨fun h0 => ?_, fun h0 => ⟨fun h1 => ?_, fun h1 => ⟨fun h2 => ?_, fun h2 => ⟨fun h3 => ?_, fun h3 => ?_⟩⟩⟩⟩
  · have w0 : a.w % 5 = 0 := by omega
    (repeat(apply And.intro;focus(and_intros<;>first|trivial|rfl)))
    refine ⟨⟨trivial, hw, k, j, hi.1, hi.2.2⟩, by (and_intros<;>first|trivial|rfl), fun d hd => ?_, fun u hu => ?_, trivial⟩
    · obtain ⟨-, k2, j2, r, hm2, hp2, hs2⟩ := hd
      have hs2 : (k2, j2, a.s.p.r3, d.l, r) ∈ showT := hs2
      have hs2 := show_here hi hm2 hp2 hs2
      (repeat(apply And.intro;focus(and_intros<;>first|trivial|rfl)))
      refine ⟨⟨trivial, k, j, r, hi, hs2⟩, by (and_intros<;>first|trivial|rfl), fun b hb => ?_, trivial⟩
      obtain ⟨k', j', m, i1, i2, i3⟩ := hb; obtain ⟨rfl, rfl⟩ := isG_inj hi i1; obtain ⟨-, -, -, -, -, -, -, -, b9, b10, b11⟩ := flG_of i3; (repeat(apply And.intro;focus(and_intros<;>first|trivial|rfl)))
      refine ⟨⟨b⟩, ⟨k, j, m, hi, by rw [act_show w0 i2], i3⟩, ?_⟩
      (and_intros<;>first|trivial|rfl)
    · have hn : ¬ 0 < (gpos k j).r1 := fun h => hu ⟨by rw [hi.2.2]; exact h, w0⟩
      (repeat(apply And.intro;focus(and_intros<;>first|trivial|rfl)))
      refine ⟨⟨trivial, k, j, hi⟩, by (and_intros<;>first|trivial|rfl), fun t ht => ?_, trivial⟩
      obtain ⟨k', j', hi', ht⟩ := ht
      obtain ⟨rfl, rfl⟩ := isG_inj hi hi'
      (repeat(apply And.intro;focus(and_intros<;>first|trivial|rfl)))
      refine ⟨⟨trivial, hz, k, j, hi⟩, by (and_intros<;>first|trivial|rfl), fun b hb => ?_, fun e he => ?_, trivial⟩
      · obtain ⟨k', j', m, i1, i2, i3⟩ := hb; obtain ⟨rfl, rfl⟩ := isG_inj hi i1; obtain ⟨-, -, -, -, -, -, -, -, b9, b10, b11⟩ := flG_of i3; (repeat(apply And.intro;focus(and_intros<;>first|trivial|rfl)))
        refine ⟨⟨b⟩, ⟨k, j, m, hi, by rw [act_turn w0 hn, ← ht]; exact i2, i3⟩, ?_⟩
        (and_intros<;>first|trivial|rfl)
      · obtain ⟨e0, k', j', i1, i2⟩ := he; obtain ⟨rfl, rfl⟩ := isG_inj hi i1; (repeat(apply And.intro;focus(and_intros<;>first|trivial|rfl)))
        refine ⟨fun h => absurd (show e.k = 0 from h) (by omega), fun _ => ⟨e, ⟨by omega, fun _ => ⟨e0, k, j, hi, by rw [act_turn w0 hn, ← ht]; exact i2⟩⟩, ?_⟩⟩
        (and_intros<;>first|trivial|rfl)
  · have w1 : a.w % 5 = 1 := by omega
    (repeat(apply And.intro;focus(and_intros<;>first|trivial|rfl)))
    refine ⟨⟨trivial, hw, k, j, hi.1, hi.2.2⟩, by (and_intros<;>first|trivial|rfl), fun d hd => ?_, fun u hu => ?_, trivial⟩
    · have hd : a.w % 5 = 0 ∧ _ := hd
      omega
    · (repeat(apply And.intro;focus(and_intros<;>first|trivial|rfl)))
      refine ⟨⟨trivial, hz, k, j, hi⟩, by (and_intros<;>first|trivial|rfl), fun b hb => ?_, fun e he => ?_, trivial⟩
      · obtain ⟨k', j', m, i1, i2, i3⟩ := hb; obtain ⟨rfl, rfl⟩ := isG_inj hi i1; obtain ⟨-, -, -, -, -, -, -, -, b9, b10, b11⟩ := flG_of i3; (repeat(apply And.intro;focus(and_intros<;>first|trivial|rfl)))
        refine ⟨⟨b⟩, ⟨k, j, m, hi, by rw [act_do w1]; exact i2, i3⟩, ?_⟩
        (and_intros<;>first|trivial|rfl)
      · obtain ⟨e0, k', j', i1, i2⟩ := he; obtain ⟨rfl, rfl⟩ := isG_inj hi i1; (repeat(apply And.intro;focus(and_intros<;>first|trivial|rfl)))
        refine ⟨fun h => absurd (show e.k = 0 from h) (by omega), fun _ => ⟨e, ⟨by omega, fun _ => ⟨e0, k, j, hi, by rw [act_do w1]; exact i2⟩⟩, ?_⟩⟩
        (and_intros<;>first|trivial|rfl)
  · have w2 : a.w % 5 = 2 := by omega
    (repeat(apply And.intro;focus(and_intros<;>first|trivial|rfl)))
    refine ⟨⟨trivial, k, j, hi⟩, by (and_intros<;>first|trivial|rfl), fun b hb => ?_, fun e he => ?_, trivial⟩
    · obtain ⟨k', j', m, i1, i2, i3⟩ := hb; obtain ⟨rfl, rfl⟩ := isG_inj hi i1; obtain ⟨-, -, -, -, -, -, -, -, b9, b10, b11⟩ := flG_of i3; (repeat(apply And.intro;focus(and_intros<;>first|trivial|rfl)))
      refine ⟨⟨b⟩, ⟨k, j, m, hi, by rw [act_sil w2]; exact i2, i3⟩, ?_⟩
      (and_intros<;>first|trivial|rfl)
    · obtain ⟨e0, k', j', i1, i2⟩ := he; obtain ⟨rfl, rfl⟩ := isG_inj hi i1; (repeat(apply And.intro;focus(and_intros<;>first|trivial|rfl)))
      refine ⟨fun h => absurd (show e.k = 0 from h) (by omega), fun _ => ⟨e, ⟨by omega, fun _ => ⟨e0, k, j, hi, by rw [act_sil w2]; exact i2⟩⟩, ?_⟩⟩
      (and_intros<;>first|trivial|rfl)
  · have w3 : a.w % 5 = 3 := by omega
    (repeat(apply And.intro;focus(and_intros<;>first|trivial|rfl)))
    refine ⟨⟨trivial, hh⟩, by (and_intros<;>first|trivial|rfl), fun r hr => ?_, trivial⟩
    obtain ⟨k2, -, -, hi2⟩ := hr
    obtain ⟨g1, g2, g3, g4, g5, g6, g7, g8, g9, g10, g11⟩ := flG_of hi2
    (repeat(apply And.intro;focus(and_intros<;>first|trivial|rfl)))
    refine ⟨⟨trivial, ⟨⟨k, j, hi⟩, k2, 0, hi2⟩, hs, htwo⟩, by (and_intros<;>first|trivial|rfl), fun b hb => ?_, fun e he => ?_, trivial⟩
    · (repeat(apply And.intro;focus(and_intros<;>first|trivial|rfl)))
      refine ⟨⟨r.g, r.p, b⟩, ⟨w3, ⟨k2, 0, hi2⟩, hb.2⟩, ?_⟩
      (and_intros<;>first|trivial|rfl)
    · (repeat(apply And.intro;focus(and_intros<;>first|trivial|rfl)))
      refine ⟨e, ⟨er_ne he, fun h => absurd h (by omega)⟩, ?_⟩
      (and_intros<;>first|trivial|rfl)
  · have w4 : a.w % 5 = 4 := by omega
    (repeat(apply And.intro;focus(and_intros<;>first|trivial|rfl)))
    refine ⟨⟨trivial, ⟨k, j, hi⟩, hs, ho⟩, by (and_intros<;>first|trivial|rfl), fun b hb => ?_, fun u hu => ?_, trivial⟩
    · (repeat(apply And.intro;focus(and_intros<;>first|trivial|rfl)))
      refine ⟨b, ⟨w4, hb⟩, ?_⟩
      (and_intros<;>first|trivial|rfl)
    · (repeat(apply And.intro;focus(and_intros<;>first|trivial|rfl)))
      refine ⟨⟨10⟩, ⟨by decide, fun h => absurd h (by omega)⟩, ?_⟩
      (and_intros<;>first|trivial|rfl)
theorem s_do3 : SpecOK Tryz.prog S_do3.spec := fun a => specG_at (S := S_do3) (an := []) envOK cwDo3_ok fun hp => g_do3 a hp
end Go.Proofs.YtfkacmmcgncooaaGreatDoor

namespace Go.Proofs.YtfkacmmcgncooaaGreatDoor
open Go.Ev
set_option linter.unusedSectionVars false
variable [Go.Ev.Frozen Tryz.prog]
noncomputable section
def W_G_do4_0 : DoA → Option AO := fun (a : DoA) => some (AO.row ([Zp 14 0, sc 26 2, sc 27 2, sc 28 2, tgI .i64 a.1.1.1, tgI .i64 a.1.1.2, tgI .i64 a.1.1.3, tgI .i64 a.1.1.4, tgI
 .u64 a.1.1.5, sc 29 2] ++ ([Zp 30 0, sc 42 2, sc 43 2, sc 44 2, tgI .i64 a.1.2.1, tgI .i64 a.1.2.2, tgI .i64 a.1.2.3, tgI .i64 a.1.2.4, tgI .u64 a.1.2.5, sc 45 2] ++ ([Zp 46 0, sc
 58 2, sc 59 2, sc 60 2, tgI .i64 a.1.3.1, tgI .i64 a.1.3.2, tgI .i64 a.1.3.3, tgI .i64 a.1.3.4, tgI .u64 a.1.3.5, sc 61 2] ++ ([Zp 62 0, sc 74 2, sc 75 2, sc 76 2, tgI .i64
 a.1.5.4, tgI .i64 a.1.5.5, tgI .i64 a.1.5.6, tgI .i64 a.1.5.7, tgI .u64 a.1.5.8, sc 77 2] ++ [])))) 83 (Md.grown 4))
def W_G_do4_1 : DoA → Option AO := fun (a : DoA) => some (AO.row [Zp 62 0, Value.slice (some (Addr.mk (Nat.add (Nat.succ (Nat.succ (Nat.succ (62 + 16)))) 0) 0 none)) 2 2,
 Value.slice (some (Addr.mk (Nat.add (Nat.succ (Nat.succ (Nat.succ (62 + 16)))) 1) 0 none)) 2 2, Value.slice (some (Addr.mk (Nat.add (Nat.succ (Nat.succ (Nat.succ (62 + 16)))) 2) 0
 none)) 2 2, tgI .i64 a.1.5.4, tgI .i64 a.1.5.5, tgI .i64 a.1.5.6, tgI .i64 a.1.5.7, tgI .u64 a.1.5.8, Value.slice (some (Addr.mk (Nat.add (Nat.add (Nat.succ (Nat.succ (Nat.succ (62
 + 16)))) (Nat.sub (12 + 6) 15)) 0) 0 none)) 2 2] 83 Md.own)
end
set_option maxHeartbeats 3200000 in
theorem vc_do4 (a : DoA) : G_do4 a = ((True ∧ QYd11P_37 a.1.5) ∧ QYd11P_67 a.1.5 ∧ (∀ (_ : Unit), True → QYd11P_25 a.1 ∧ QYd11P_28 a.1 ∧ (∀ (x5 : XyB), QYd11P_51 a.1 x5 → ((True ∧ True ∧ True) ∧ (True ∧ True ∧ True) ∧
(True ∧ True ∧ True) ∧ (W_G_do4_0 a = W_G_do4_0 a ∧ W_G_do4_0 a = W_G_do4_0 a ∧ True) ∧ True ∧ True ∧ True ∧ True ∧ True ∧ (True ∧ True) ∧ (True ∧ True) ∧ (True ∧ True) ∧
(W_G_do4_0 a = W_G_do4_0 a ∧ True) ∧ True ∧ True ∧ True ∧ True) ∧ (True ∧ True ∧ True ∧ (True ∧ True) ∧ (W_G_do4_1 a = W_G_do4_1 a ∧ True) ∧ (True ∧ True) ∧ (W_G_do4_1 a =
W_G_do4_1 a ∧ True) ∧ True ∧ True ∧ True ∧ True) ∧ (5 : Int) ≠ (0 : Int) ∧ ∀ (x6 : Int), x6 = Int.tmod a.2 (5 : Int) → (x6 = (0 : Int) → QYd11P_20 a ∧ QYd11P_9 a ∧ QYd11P_59 a ∧ (∀
(_ : Unit), QYd11P_46 a → QYd11P_12 ∧ (True ∧ (∃ (x25 x26 : Nat), isG a.1.4 a.1.5 x25 x26)) ∧ QYd11P_70 a.1 ∧ (∀ (x27 : TnB), QYd11P_73 a.1 x27.1 → QYd11P_41 ∧ QYd11P_64 a a.1.5
x27.1 a.1.4 a.4) ∧ True) ∧ True) ∧ (¬(x6 = (0 : Int)) → (x6 = (1 : Int) → QYd11P_20 a ∧ QYd11P_9 a ∧ QYd11P_59 a ∧ (∀ (_ : Unit), QYd11P_46 a → QYd11P_64 a a.1.5 a.3 a.1.4 a.4) ∧
True) ∧ (¬(x6 = (1 : Int)) → (x6 = (2 : Int) → QYd11P_12 ∧ (True ∧ (∃ (x86 x87 : Nat), isG a.1.4 a.1.5 x86 x87)) ∧ QYd11P_53 a ∧ (∀ (x88 : PoA), QYd11P_45 a x88 → QYd11P_3 ∧
QYd11P_4 a x88) ∧ (∀ (x96 : TnB), QYd11P_54 x96.1 a → QYd11P_3 ∧ QYd11P_8 x96.1 a) ∧ True) ∧ (¬(x6 = (2 : Int)) → (x6 = (3 : Int) → (True ∧ 0 ≤ a.5 ∧ a.5 < 256) ∧ ((Z1 a.5 ∧ True)
∧ QYd11P_31) ∧ (∀ (x105 : GtA), QYd11P_50 a.5 x105 → (True ∧ True) ∧ (QYd11P_47 x105.2 a ∧ (True ∧ (0 = 0 ∧ 4 = 4 ∧ 4 = 4) ∧ True) ∧ QYd11P_23 a.1 ∧ (2 = 2 ∧ Z1 a.1.1.6 ∧ Z1
a.1.1.7 ∧ True) ∧ (2 = 2 ∧ Z1 a.1.2.6 ∧ Z1 a.1.2.7 ∧ True) ∧ (2 = 2 ∧ Z1 a.1.3.6 ∧ Z1 a.1.3.7 ∧ True) ∧ (2 = 2 ∧ Z1 a.1.6 ∧ Z1 a.1.7 ∧ True) ∧ (True ∧ True) ∧ (True ∧ True) ∧ (True
∧ True) ∧ (True ∧ True) ∧ (True ∧ True) ∧ (True ∧ True) ∧ (True ∧ True) ∧ (True ∧ True) ∧ (True ∧ True) ∧ (True ∧ True) ∧ (True ∧ True) ∧ (True ∧ True) ∧ (True ∧ True) ∧ (True ∧
True) ∧ (True ∧ True) ∧ (True ∧ True) ∧ (True ∧ True) ∧ (True ∧ True) ∧ (True ∧ True) ∧ (True ∧ True) ∧ True) ∧ (∀ (x107 : TnB), x107.1 = 25 → ∃ (x108 : TnB), QYd11P_5 x108.1 a ∧
x108.1 = x107.1 ∧ QYd11P_72 a.1) ∧ True) ∧ True) ∧ (¬(x6 = (3 : Int)) → (True ∧ isGx a.1.4 a.1.5 ∧ (smQ a.1.6 ∧ smQ a.1.7) ∧ smQ a.1.3.6 ∧ smQ a.1.3.7) ∧ ((0 = 0 ∧ True) ∧ (True ∧
(0 = 0 ∧ 4 = 4 ∧ 4 = 4) ∧ True) ∧ QYd11P_23 a.1 ∧ (2 = 2 ∧ Z1 a.1.1.6 ∧ Z1 a.1.1.7 ∧ True) ∧ (2 = 2 ∧ Z1 a.1.2.6 ∧ Z1 a.1.2.7 ∧ True) ∧ (2 = 2 ∧ Z1 a.1.3.6 ∧ Z1 a.1.3.7 ∧ True) ∧
(2 = 2 ∧ Z1 a.1.6 ∧ Z1 a.1.7 ∧ True) ∧ (True ∧ True) ∧ (True ∧ True) ∧ (True ∧ True) ∧ (True ∧ True) ∧ (True ∧ True) ∧ (True ∧ True) ∧ (True ∧ True) ∧ (True ∧ True) ∧ QYd11P_65
a.1) ∧ (∀ (x111 : XyB), QYd11P_55 a.1 x111 → ∃ (x114 : XyB), (a.2 % (5 : Int) = 4 ∧ popQ a.1 x114) ∧ (0 : Int) = 0 ∧ (True ∧ (0 = 0 ∧ 3 = 3 ∧ 3 = 3) ∧ True) ∧ (3 = 3 ∧ 0 = 0 ∧ Z2 ∧
Z2 ∧ Z2 ∧ Z1 a.1.1.1 ∧ Z1 a.1.1.2 ∧ Z1 a.1.1.3 ∧ Z1 a.1.1.4 ∧ Z1 a.1.1.5 ∧ Z2 ∧ 0 = 0 ∧ Z2 ∧ Z2 ∧ Z2 ∧ Z1 a.1.2.1 ∧ Z1 a.1.2.2 ∧ Z1 a.1.2.3 ∧ Z1 a.1.2.4 ∧ Z1 a.1.2.5 ∧ Z2 ∧
QYd11P_66 a.1.3) ∧ (2 = 2 ∧ Z1 a.1.1.6 ∧ Z1 a.1.1.7 ∧ True) ∧ (2 = 2 ∧ Z1 a.1.2.6 ∧ Z1 a.1.2.7 ∧ True) ∧ QYd11P_71 a.1.3 x114 x111) ∧ (∀ (_ : Unit), (∃ (x116 x117 : Nat), isG a.1.4
a.1.5 x116 x117 ∧ (0 : Int) ≤ turnG x116 x117) → ∃ (x118 : TnB), QYd11P_5 x118.1 a ∧ x118.1 = 10 ∧ QYd11P_72 a.1) ∧ True))))) ∧ True) ∧ True) := by kernel_rfl
set_option maxHeartbeats 1600000 in
theorem g_do4 (a : DoA) (hp : doP 4 a) : GW (G_do4 a) := by
  obtain ⟨⟨k, j, hi⟩, ⟨hs, ho⟩, ⟨hw, hz, hh⟩, htwo⟩ := hp
  obtain ⟨f1, f2, f3, f4, f5, f6, f7, f8, f9, f10, f11⟩ := flG_of hi
  have f12 := fl11
  have f13 := fl00
  have f14 := fl2t a.s.x a.s.y
  have gl0 : FlatL cells0 := flatAll (by kernel_rfl)
  have gl1 : FlatL cells1 := flatAll (by kernel_rfl)
  have gl2 : FlatL cells2 := flatAll (by kernel_rfl)
  have gl4 : FlatL cells4 := flatAll (by kernel_rfl)
  have gl5 : FlatL cells5 := flatAll (by kernel_rfl)
  have gl6 : FlatL cells6 := flatAll (by kernel_rfl)
  have gl8 : FlatL cells8 := flatAll (by kernel_rfl)
  have gl9 : FlatL cells9 := flatAll (by kernel_rfl)
  have gl10 : FlatL cells10 := flatAll (by kernel_rfl)
  refine ⟨?_⟩
  rw [vc_do4]
  (repeat(apply And.intro;focus(and_intros<;>first|trivial|rfl)))
  refine ⟨⟨trivial, k, j, hi.1, hi.2.2⟩, by (and_intros<;>first|trivial|rfl), fun _ _ => ?_, trivial⟩
  (repeat(apply And.intro;focus(and_intros<;>first|trivial|rfl)))
  refine ⟨⟨trivial, ⟨Nat.le_refl _, Nat.le_refl _, f14⟩, a.s.x, a.s.y, rfl⟩, by (and_intros<;>first|trivial|rfl), fun q _ => ?_, trivial⟩
  (repeat(apply And.intro;focus(and_intros<;>first|trivial|rfl)))
  intro x6 e6
  have e6 : x6 = a.w % 5 := by rw [e6]; exact Int.tmod_eq_emod_of_nonneg hw.1
  refine ⟨fun h0 => ?_, fun h0 => ⟨fun h1 => ?_, fun h1 => ⟨fun h2 => ?_, fun h2 => ⟨fun h3 => ?_, fun h3 => ?_⟩⟩⟩⟩
  · have w0 : a.w % 5 = 0 := by omega
    (repeat(apply And.intro;focus(and_intros<;>first|trivial|rfl)))
    refine ⟨⟨trivial, hw, k, j, hi.1, hi.2.2⟩, by (and_intros<;>first|trivial|rfl), fun d hd => ?_, fun u hu => ?_, trivial⟩
    · obtain ⟨-, k2, j2, r, hm2, hp2, hs2⟩ := hd
      have hs2 : (k2, j2, a.s.p.r3, d.l, r) ∈ showT := hs2
      have hs2 := show_here hi hm2 hp2 hs2
      (repeat(apply And.intro;focus(and_intros<;>first|trivial|rfl)))
      refine ⟨⟨trivial, k, j, r, hi, hs2⟩, by (and_intros<;>first|trivial|rfl), fun b hb => ?_, trivial⟩
      obtain ⟨k', j', m, i1, i2, i3⟩ := hb; obtain ⟨rfl, rfl⟩ := isG_inj hi i1; obtain ⟨-, -, -, -, -, -, -, -, b9, b10, b11⟩ := flG_of i3; (repeat(apply And.intro;focus(and_intros<;>first|trivial|rfl)))
      refine ⟨⟨b⟩, ⟨k, j, m, hi, by rw [act_show w0 i2], i3⟩, ?_⟩
      (and_intros<;>first|trivial|rfl)
    · have hn : ¬ 0 < (gpos k j).r1 := fun h => hu ⟨by rw [hi.2.2]; exact h, w0⟩
      (repeat(apply And.intro;focus(and_intros<;>first|trivial|rfl)))
      refine ⟨⟨trivial, k, j, hi⟩, by (and_intros<;>first|trivial|rfl), fun t ht => ?_, trivial⟩
      obtain ⟨k', j', hi', ht⟩ := ht
      obtain ⟨rfl, rfl⟩ := isG_inj hi hi'
      (repeat(apply And.intro;focus(and_intros<;>first|trivial|rfl)))
      refine ⟨⟨trivial, hz, k, j, hi⟩, by (and_intros<;>first|trivial|rfl), fun b hb => ?_, fun e he => ?_, trivial⟩
      · obtain ⟨k', j', m, i1, i2, i3⟩ := hb; obtain ⟨rfl, rfl⟩ := isG_inj hi i1; obtain ⟨-, -, -, -, -, -, -, -, b9, b10, b11⟩ := flG_of i3; (repeat(apply And.intro;focus(and_intros<;>first|trivial|rfl)))
        refine ⟨⟨b⟩, ⟨k, j, m, hi, by rw [act_turn w0 hn, ← ht]; exact i2, i3⟩, ?_⟩
        (and_intros<;>first|trivial|rfl)
      · obtain ⟨e0, k', j', i1, i2⟩ := he; obtain ⟨rfl, rfl⟩ := isG_inj hi i1; (repeat(apply And.intro;focus(and_intros<;>first|trivial|rfl)))
        refine ⟨fun h => absurd (show e.k = 0 from h) (by omega), fun _ => ⟨e, ⟨by omega, fun _ => ⟨e0, k, j, hi, by rw [act_turn w0 hn, ← ht]; exact i2⟩⟩, ?_⟩⟩
        (and_intros<;>first|trivial|rfl)
  · have w1 : a.w % 5 = 1 := by omega
    (repeat(apply And.intro;focus(and_intros<;>first|trivial|rfl)))
    refine ⟨⟨trivial, hw, k, j, hi.1, hi.2.2⟩, by (and_intros<;>first|trivial|rfl), fun d hd => ?_, fun u hu => ?_, trivial⟩
    · have hd : a.w % 5 = 0 ∧ _ := hd
      omega
    · (repeat(apply And.intro;focus(and_intros<;>first|trivial|rfl)))
      refine ⟨⟨trivial, hz, k, j, hi⟩, by (and_intros<;>first|trivial|rfl), fun b hb => ?_, fun e he => ?_, trivial⟩
      · obtain ⟨k', j', m, i1, i2, i3⟩ := hb; obtain ⟨rfl, rfl⟩ := isG_inj hi i1; obtain ⟨-, -, -, -, -, -, -, -, b9, b10, b11⟩ := flG_of i3; (repeat(apply And.intro;focus(and_intros<;>first|trivial|rfl)))
        refine ⟨⟨b⟩, ⟨k, j, m, hi, by rw [act_do w1]; exact i2, i3⟩, ?_⟩
        (and_intros<;>first|trivial|rfl)
      · obtain ⟨e0, k', j', i1, i2⟩ := he; obtain ⟨rfl, rfl⟩ := isG_inj hi i1; (repeat(apply And.intro;focus(and_intros<;>first|trivial|rfl)))
        refine ⟨fun h => absurd (show e.k = 0 from h) (by omega), fun _ => ⟨e, ⟨by omega, fun _ => ⟨e0, k, j, hi, by rw [act_do w1]; exact i2⟩⟩, ?_⟩⟩
        (and_intros<;>first|trivial|rfl)
  · have w2 : a.w % 5 = 2 := by omega
    (repeat(apply And.intro;focus(and_intros<;>first|trivial|rfl)))
    refine ⟨⟨trivial, k, j, hi⟩, by (and_intros<;>first|trivial|rfl), fun b hb => ?_, fun e he => ?_, trivial⟩
    · obtain ⟨k', j', m, i1, i2, i3⟩ := hb; obtain ⟨rfl, rfl⟩ := isG_inj hi i1; obtain ⟨-, -, -, -, -, -, -, -, b9, b10, b11⟩ := flG_of i3; (repeat(apply And.intro;focus(and_intros<;>first|trivial|rfl)))
      refine ⟨⟨b⟩, ⟨k, j, m, hi, by rw [act_sil w2]; exact i2, i3⟩, ?_⟩
      (and_intros<;>first|trivial|rfl)
    · obtain ⟨e0, k', j', i1, i2⟩ := he; obtain ⟨rfl, rfl⟩ := isG_inj hi i1; (repeat(apply And.intro;focus(and_intros<;>first|trivial|rfl)))
      refine ⟨fun h => absurd (show e.k = 0 from h) (by omega), fun _ => ⟨e, ⟨by omega, fun _ => ⟨e0, k, j, hi, by rw [act_sil w2]; exact i2⟩⟩, ?_⟩⟩
      (and_intros<;>first|trivial|rfl)
  · have w3 : a.w % 5 = 3 := by omega
    (repeat(apply And.intro;focus(and_intros<;>first|trivial|rfl)))
    refine ⟨⟨trivial, hh⟩, by (and_intros<;>first|trivial|rfl), fun r hr => ?_, trivial⟩
    obtain ⟨k2, -, -, hi2⟩ := hr
    obtain ⟨g1, g2, g3, g4, g5, g6, g7, g8, g9, g10, g11⟩ := flG_of hi2
    (repeat(apply And.intro;focus(and_intros<;>first|trivial|rfl)))
    refine ⟨fun e he => ?_, trivial⟩
    (repeat(apply And.intro;focus(and_intros<;>first|trivial|rfl)))
    have he : e.k = 25 := he
    refine ⟨e, ⟨by omega, fun h => absurd h (by omega)⟩, ?_⟩
    (and_intros<;>first|trivial|rfl)
  · have w4 : a.w % 5 = 4 := by omega
    (repeat(apply And.intro;focus(and_intros<;>first|trivial|rfl)))
    refine ⟨⟨trivial, ⟨k, j, hi⟩, hs, ho⟩, by (and_intros<;>first|trivial|rfl), fun b hb => ?_, fun u hu => ?_, trivial⟩
    · (repeat(apply And.intro;focus(and_intros<;>first|trivial|rfl)))
      refine ⟨b, ⟨w4, hb⟩, ?_⟩
      (and_intros<;>first|trivial|rfl)
    · (repeat(apply And.intro;focus(and_intros<;>first|trivial|rfl)))
      refine ⟨⟨10⟩, ⟨by decide, fun h => absurd h (by omega)⟩, ?_⟩
      (and_intros<;>first|trivial|rfl)
theorem s_do4 : SpecOK Tryz.prog S_do4.spec := fun a => specG_at (S := S_do4) (an := []) envOK cwDo4_ok fun hp => g_do4 a hp
end Go.Proofs.YtfkacmmcgncooaaGreatDoor
