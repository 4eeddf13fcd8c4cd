/- The law of money. -/
import Derived.Test.YtfkacmmcgncooaaGreatDoorYq3P
set_option maxRecDepth 100000
namespace Go.Proofs.YtfkacmmcgncooaaGreatDoor
open Go.Ev
theorem smI {n : Int} (h : 0 ≤ n) (h' : n ≤ 1000000) : smQ n := ⟨h, h'⟩
variable [Frozen Tryz.prog]
noncomputable section
def W_G_money_0 : MnA → Option Addr := fun (a : MnA) => a.4
def W_G_money_1 : Nat → Nat → Option Addr := fun (x2 x3 : Nat) => some (Addr.mk x2 x3 none)
abbrev QYw1P_14 (a0 : RuA) (a1 : RuA) : Prop := True ∧ True ∧ (0 = 0 ∧ 2 = 2 ∧ 2 = 2) ∧ a0.19.1 = a1.19.1 ∧ a0.19.2 = a1.19.2 ∧ a0.19.3 = a1.19.3 ∧ a0.19.4 = a1.19.4 ∧ a0.19.5 =
 a1.19.5 ∧ a0.19.6 = a1.19.6 ∧ a0.19.7 = a1.19.7 ∧ a0.19.8 = a1.19.8 ∧ 0 = 0 ∧ (0 = 0 ∧ 1 = 1 ∧ 1 = 1) ∧ (0 = 0 ∧ 2 = 2 ∧ 2 = 2) ∧ True
abbrev QYw1P_8 : Prop := True ∧ FlatL [Value.int .i64 1, Value.int .i64 1] ∧ [Value.int .i64 1, Value.int .i64 1] = [Value.int .i64 1, Value.int .i64 1]
abbrev QYw1P_11 (a0 : RuA) (a1 : RuA) : Prop := True ∧ (2 : Int) = 2 ∧ (2 : Int) = 2 ∧ (0 = 0 ∧ 2 = 2 ∧ 2 = 2) ∧ (0 = 0 ∧ 1 = 1 ∧ 1 = 1) ∧ (0 = 0 ∧ a0.1 = a1.1 ∧ a0.1 = a1.1) ∧ (0
 = 0 ∧ a0.2 = a1.2 ∧ a0.2 = a1.2) ∧ (0 = 0 ∧ a0.3 = a1.3 ∧ a0.3 = a1.3) ∧ (0 = 0 ∧ a0.4 = a1.4 ∧ a0.4 = a1.4) ∧ (0 = 0 ∧ a0.5 = a1.5 ∧ a0.5 = a1.5) ∧ a0.6 = a1.6 ∧ a0.7 = a1.7 ∧
 a0.8 = a1.8 ∧ a0.9 = a1.9 ∧ a0.10 = a1.10 ∧ True
abbrev QYw1P_9 : Prop := True ∧ FlatL [Value.int .i32 0, Value.int .i32 0] ∧ [Value.int .i32 0, Value.int .i32 0] = [Value.int .i32 0, Value.int .i32 0]
abbrev QYw1P_17 : Prop := ZF cells0 ∧ ZF cells1 ∧ ZF cells2 ∧ ZF cells4 ∧ ZF cells5 ∧ ZF cells6 ∧ ZF cells8 ∧ ZF cells9 ∧ ZF cells10 ∧ True
abbrev QYw1P_1 (a0 : RuA) (a1 : RuA) (a2 : PoA) (a3 : PoA) : Prop := QYw1P_14 a0 a1 ∧ QYw1P_8 ∧ QYw1P_11 a0 a1 ∧ QYw1P_9 ∧ (True ∧ FlatL a0.11 ∧ a0.11 = a1.11) ∧ (True ∧ FlatL
 a0.12 ∧ a0.12 = a1.12) ∧ (True ∧ FlatL a0.13 ∧ a0.13 = a1.13) ∧ (True ∧ FlatL a0.14 ∧ a0.14 = a1.14) ∧ (True ∧ FlatL a0.15 ∧ a0.15 = a1.15) ∧ (True ∧ FlatL a0.16 ∧ a0.16 = a1.16) ∧
 (True ∧ FlatL a0.17 ∧ a0.17 = a1.17) ∧ (True ∧ FlatL a0.18 ∧ a0.18 = a1.18) ∧ (True ∧ FlatL a2.1 ∧ a2.1 = a3.1) ∧ (True ∧ FlatL a2.2 ∧ a2.2 = a3.2) ∧ (True ∧ FlatL a2.3 ∧ a2.3 =
 a3.3) ∧ QYw1P_17
abbrev QYw1P_10 (a0 : RuA) : Prop := True ∧ True ∧ (0 = 0 ∧ 2 = 2 ∧ 2 = 2) ∧ Z1 a0.19.1 ∧ Z1 a0.19.2 ∧ Z1 a0.19.3 ∧ Z1 a0.19.4 ∧ Z1 a0.19.5 ∧ Z1 a0.19.6 ∧ Z1 a0.19.7 ∧ Z1 a0.19.8 ∧
 0 = 0 ∧ (0 = 0 ∧ 1 = 1 ∧ 1 = 1) ∧ (0 = 0 ∧ 2 = 2 ∧ 2 = 2) ∧ True
abbrev QYw1P_7 (a0 : RuA) : Prop := True ∧ (2 : Int) = 2 ∧ (2 : Int) = 2 ∧ (0 = 0 ∧ 2 = 2 ∧ 2 = 2) ∧ (0 = 0 ∧ 1 = 1 ∧ 1 = 1) ∧ (0 = 0 ∧ Z1 a0.1 ∧ Z1 a0.1) ∧ (0 = 0 ∧ Z1 a0.2 ∧ Z1
 a0.2) ∧ (0 = 0 ∧ Z1 a0.3 ∧ Z1 a0.3) ∧ (0 = 0 ∧ Z1 a0.4 ∧ Z1 a0.4) ∧ (0 = 0 ∧ Z1 a0.5 ∧ Z1 a0.5) ∧ Z1 a0.6 ∧ Z1 a0.7 ∧ Z1 a0.8 ∧ Z1 a0.9 ∧ Z1 a0.10 ∧ True
abbrev QYw1P_2 (a0 : GvA) : Prop := QYw1P_10 a0.1 ∧ QYw1P_8 ∧ QYw1P_7 a0.1 ∧ QYw1P_9 ∧ ZF a0.1.11 ∧ ZF a0.1.12 ∧ ZF a0.1.13 ∧ ZF a0.1.14 ∧ ZF a0.1.15 ∧ ZF a0.1.16 ∧ ZF a0.1.17 ∧ ZF
 a0.1.18 ∧ ZF a0.2.1 ∧ ZF a0.2.2 ∧ ZF a0.2.3 ∧ QYw1P_17
abbrev QYw1P_27 : Prop := True ∧ True ∧ True ∧ True ∧ True ∧ True ∧ True ∧ True ∧ True ∧ True ∧ True ∧ True ∧ True ∧ True ∧ True ∧ True ∧ True ∧ True ∧ True
abbrev QYw1P_3 : Prop := True ∧ True ∧ True ∧ True ∧ True ∧ True ∧ True ∧ True ∧ True ∧ True ∧ True ∧ (True ∧ True) ∧ True ∧ True ∧ True ∧ True ∧ True ∧ (True ∧ True) ∧ QYw1P_27
abbrev QYw1P_15 (a0 : PoA) : Prop := 0 = 0 ∧ (0 = 0 ∧ 2 = 2 ∧ 2 = 2) ∧ (0 = 0 ∧ 2 = 2 ∧ 2 = 2) ∧ (0 = 0 ∧ 2 = 2 ∧ 2 = 2) ∧ Z1 a0.4 ∧ Z1 a0.5 ∧ Z1 a0.6 ∧ Z1 a0.7 ∧ Z1 a0.8 ∧ (0 = 0
 ∧ 2 = 2 ∧ 2 = 2) ∧ True
abbrev QYw1P_4 (a0 : PoA) (a1 : PoA) : Prop := 0 = 0 ∧ (0 = 0 ∧ 2 = 2 ∧ 2 = 2) ∧ (0 = 0 ∧ 2 = 2 ∧ 2 = 2) ∧ (0 = 0 ∧ 2 = 2 ∧ 2 = 2) ∧ Z1 a0.4 ∧ Z1 a0.5 ∧ Z1 a0.6 ∧ Z1 a0.7 ∧ Z1 a0.8
 ∧ (0 = 0 ∧ 2 = 2 ∧ 2 = 2) ∧ QYw1P_15 a1
abbrev QYw1P_5 (a0 : RuA) (a1 : PoA) : Prop := QYw1P_10 a0 ∧ QYw1P_8 ∧ QYw1P_7 a0 ∧ QYw1P_9 ∧ ZF a0.11 ∧ ZF a0.12 ∧ ZF a0.13 ∧ ZF a0.14 ∧ ZF a0.15 ∧ ZF a0.16 ∧ ZF a0.17 ∧ ZF a0.18
 ∧ ZF a1.1 ∧ ZF a1.2 ∧ ZF a1.3 ∧ ZF cells2 ∧ True
abbrev QYw1P_6 (a0 : RuA) (a1 : RuA) (a2 : PoA) (a3 : PoA) (a4 : RuA) (a5 : RuA) (a6 : PoA) (a7 : PoA) : Prop := QYw1P_14 a0 a1 ∧ QYw1P_8 ∧ QYw1P_11 a0 a1 ∧ QYw1P_9 ∧ (True ∧ FlatL
 a0.11 ∧ a0.11 = a1.11) ∧ (True ∧ FlatL a0.12 ∧ a0.12 = a1.12) ∧ (True ∧ FlatL a0.13 ∧ a0.13 = a1.13) ∧ (True ∧ FlatL a0.14 ∧ a0.14 = a1.14) ∧ (True ∧ FlatL a0.15 ∧ a0.15 = a1.15) ∧
 (True ∧ FlatL a0.16 ∧ a0.16 = a1.16) ∧ (True ∧ FlatL a0.17 ∧ a0.17 = a1.17) ∧ (True ∧ FlatL a0.18 ∧ a0.18 = a1.18) ∧ (True ∧ FlatL a2.1 ∧ a2.1 = a3.1) ∧ (True ∧ FlatL a2.2 ∧ a2.2 =
 a3.2) ∧ (True ∧ FlatL a2.3 ∧ a2.3 = a3.3) ∧ QYw1P_1 a4 a5 a6 a7
abbrev QYw1P_12 : Prop := (True ∧ True ∧ True ∧ True ∧ True ∧ True ∧ True ∧ True ∧ True ∧ True ∧ True ∧ (True ∧ True) ∧ True ∧ True ∧ True ∧ True ∧ True ∧ True ∧ QYw1P_27) ∧ ∃ (_ :
 Unit), True ∧ true = false ∧ True
abbrev QYw1P_13 (a0 : PoA) (a1 : PoA) : Prop := 0 = 0 ∧ (0 = 0 ∧ 2 = 2 ∧ 2 = 2) ∧ (0 = 0 ∧ 2 = 2 ∧ 2 = 2) ∧ (0 = 0 ∧ 2 = 2 ∧ 2 = 2) ∧ a0.4 = a1.4 ∧ a0.5 = a1.5 ∧ a0.6 = a1.6 ∧ a0.7
 = a1.7 ∧ a0.8 = a1.8 ∧ (0 = 0 ∧ 2 = 2 ∧ 2 = 2) ∧ True
abbrev QYw1P_16 (a0 : PoA) (a1 : PoA) (a2 : PoA) : Prop := 0 = 0 ∧ (0 = 0 ∧ 2 = 2 ∧ 2 = 2) ∧ (0 = 0 ∧ 2 = 2 ∧ 2 = 2) ∧ (0 = 0 ∧ 2 = 2 ∧ 2 = 2) ∧ Z1 a0.4 ∧ Z1 a0.5 ∧ Z1 a0.6 ∧ Z1
 a0.7 ∧ Z1 a0.8 ∧ (0 = 0 ∧ 2 = 2 ∧ 2 = 2) ∧ QYw1P_4 a1 a2
abbrev QYw1P_18 (a0 : GvA) : Prop := isGx a0.1 a0.2 ∧ smQ a0.3 ∧ smQ a0.4
abbrev QYw1P_19 (a0 : Int) (a1 : Int) (a2 : Int) : Prop := ((0 : Int) ≤ a0 ∧ a0 < (256 : Int)) ∧ ((-2147483648 : Int) ≤ a1 ∧ a1 ≤ (2147483647 : Int)) ∧ (0 : Int) ≤ a2 ∧ a2 < (256 :
 Int)
abbrev QYw1P_20 (a0 : MnA) (a1 : Int) (a2 : Int) : Prop := 0 = 0 ∧ a0.2 + a0.3 = a0.2 + a0.3 ∧ Value.slice a0.4 a0.5 a0.6 = Value.slice a0.4 a0.5 a0.6 ∧ (↑a0.5 : Int) = (↑a0.5 :
 Int) ∧ a1 = a2 ∧ True
abbrev QYw1P_21 (a0 : Int) (a1 : Int) (a2 : GvA) (a3 : Int) (a4 : Int) : Prop := a0 ≠ 0 ∧ (a1 % (5 : Int) ≤ (2 : Int) → 0 < a0 ∧ ∃ (b0 b1 : Nat), isG a2.1 a2.2 b0 b1 ∧ actG b0 b1
 a1 a3 a4 = -a0)
abbrev QYw1P_22 (a0 : GvA) : Prop := 2 = 2 ∧ Z1 a0.3 ∧ Z1 a0.4 ∧ True
abbrev QYw1P_23 (a0 : GvA) (a1 : Int) (a2 : Int) (a3 : Int) (a4 : PoA) : Prop := ∃ (b0 b1 b2 : Nat), isG a0.1 a0.2 b0 b1 ∧ actG b0 b1 a1 a2 a3 = (↑b2 : Int) ∧ isG a0.1 a4 b0 b2
abbrev QYw1P_24 (a0 : Int) (a1 : Int) (a2 : Int) (a3 : Int) (a4 : Option Addr) (a5 : Nat) (a6 : Nat) : Prop := 0 = 0 ∧ (a0 = a0 ∧ a1 = a1 ∧ a2 = a2 ∧ a3 = a3 ∧ Value.slice a4 a5 a6
 = Value.slice a4 a5 a6 ∧ True) ∧ True
abbrev QYw1P_25 (a0 : PoA) (a1 : PoA) (a2 : PoA) (a3 : PoA) : Prop := 0 = 0 ∧ (0 = 0 ∧ 2 = 2 ∧ 2 = 2) ∧ (0 = 0 ∧ 2 = 2 ∧ 2 = 2) ∧ (0 = 0 ∧ 2 = 2 ∧ 2 = 2) ∧ a0.4 = a1.4 ∧ a0.5 =
 a1.5 ∧ a0.6 = a1.6 ∧ a0.7 = a1.7 ∧ a0.8 = a1.8 ∧ (0 = 0 ∧ 2 = 2 ∧ 2 = 2) ∧ QYw1P_13 a2 a3
abbrev QYw1P_26 : Prop := (True ∧ True) ∧ (True ∧ True) ∧ (True ∧ True) ∧ (True ∧ True) ∧ (True ∧ True) ∧ (True ∧ True) ∧ (True ∧ True) ∧ (True ∧ True) ∧ True
abbrev QYw1P_28 (a0 : Int) (a1 : Nat) : Prop := ¬(a0 < (↑a1 : Int)) → ∃ (_ : Unit), True ∧ true = true ∧ True
abbrev QYw1P_29 (a0 : GvA) : Prop := (True ∧ True) ∧ (True ∧ True) ∧ (True ∧ True) ∧ (True ∧ True) ∧ (True ∧ True) ∧ (True ∧ True) ∧ (True ∧ True) ∧ (True ∧ True) ∧ QYw1P_2 a0
abbrev QYw1P_30 (a0 : RuA) (a1 : PoA) (a2 : RuA) (a3 : PoA) : Prop := QYw1P_10 a0 ∧ QYw1P_8 ∧ QYw1P_7 a0 ∧ QYw1P_9 ∧ ZF a0.11 ∧ ZF a0.12 ∧ ZF a0.13 ∧ ZF a0.14 ∧ ZF a0.15 ∧ ZF a0.16
 ∧ ZF a0.17 ∧ ZF a0.18 ∧ ZF a1.1 ∧ ZF a1.2 ∧ ZF a1.3 ∧ QYw1P_5 a2 a3
abbrev QYw1P_31 (a0 : Int) : Prop := a0 < (0 : Int) → QYw1P_3 ∧ ∃ (_ : Unit), True ∧ true = false ∧ True
def TL1 (u0 : Int) (u1 : Int) (u2 : PoA) (u3 : RuA) (u4 : MnA) (u5 : Int) : Prop := (True ∧ (smQ u0 ∧ smQ u1) ∧ True) ∧ ((0 = 0 ∧ True) ∧ (True ∧ (0 = 0 ∧ 1 = 1 ∧ 1 = 1) ∧ True) ∧ (1 = 1 ∧ QYw1P_15 u2) ∧ (2 = 2 ∧ u0 = u0 ∧ u1 = u1 ∧ True) ∧ (True ∧ True) ∧ (True ∧
 True) ∧ (True ∧ True) ∧ (True ∧ True) ∧ True) ∧ (∀ (_ : Unit), True → (True ∧ isGx u3 u2 ∧ smQ u0 ∧ smQ u1) ∧ ((0 = 0 ∧ True) ∧ (True ∧ (0 = 0 ∧ 1 = 1 ∧ 1 = 1) ∧ True) ∧ (True ∧
 QYw1P_15 u2) ∧ (True ∧ u0 = u0 ∧ u1 = u1 ∧ True) ∧ QYw1P_5 u3 u2) ∧ (∀ (b1 : XyB), PayD 0 (PyA.mk (GvA.mk u3 u2 u0 u1) (GvA.mk u3 u2 u0 u1) (GvA.mk u3 u2 u0 u1) (GvA.mk u3 u2 u0
 u1)) b1 → ∀ (b2 : Int), b2 = IntKind.wrap .i64 ((0 : Int) + sumX 1 (StA.mk (OuA.mk (0 : Int) (0 : Int) (0 : Int) (0 : Int) (0 : Int) (0 : Int) (0 : Int)) (OuA.mk (0 : Int) (0 :
 Int) (0 : Int) (0 : Int) (0 : Int) (0 : Int) (0 : Int)) (OuA.mk (0 : Int) (0 : Int) (0 : Int) (0 : Int) (0 : Int) (0 : Int) (0 : Int)) u3 u2 u0 u1)) → ∀ (b3 : Int), b3 =
 IntKind.wrap .i64 (b2 + sumY 1 (StA.mk (OuA.mk (0 : Int) (0 : Int) (0 : Int) (0 : Int) (0 : Int) (0 : Int) (0 : Int)) (OuA.mk (0 : Int) (0 : Int) (0 : Int) (0 : Int) (0 : Int) (0 :
 Int) (0 : Int)) (OuA.mk (0 : Int) (0 : Int) (0 : Int) (0 : Int) (0 : Int) (0 : Int) (0 : Int)) u3 u2 u0 u1)) → (b3 ≠ u4.2 + u4.3 → QYw1P_12) ∧ (¬(b3 ≠ u4.2 + u4.3) → ∀ (b4 : Int),
 b4 = IntKind.wrap .i64 ((0 : Int) + b1.1) → ∀ (b5 : Int), b5 = IntKind.wrap .i64 (b4 + b1.2) → (b5 ≠ u4.2 + u4.3 → QYw1P_3 ∧ (∃ (_ : Unit), True ∧ true = false ∧ True)) ∧ (¬(b5 ≠
 u4.2 + u4.3) → ∀ (b6 : Int), b6 = Min.min (Min.min (Min.min (sumX 1 (StA.mk (OuA.mk (0 : Int) (0 : Int) (0 : Int) (0 : Int) (0 : Int) (0 : Int) (0 : Int)) (OuA.mk (0 : Int) (0 :
 Int) (0 : Int) (0 : Int) (0 : Int) (0 : Int) (0 : Int)) (OuA.mk (0 : Int) (0 : Int) (0 : Int) (0 : Int) (0 : Int) (0 : Int) (0 : Int)) u3 u2 u0 u1)) (sumY 1 (StA.mk (OuA.mk (0 :
 Int) (0 : Int) (0 : Int) (0 : Int) (0 : Int) (0 : Int) (0 : Int)) (OuA.mk (0 : Int) (0 : Int) (0 : Int) (0 : Int) (0 : Int) (0 : Int) (0 : Int)) (OuA.mk (0 : Int) (0 : Int) (0 :
 Int) (0 : Int) (0 : Int) (0 : Int) (0 : Int)) u3 u2 u0 u1))) b1.1) b1.2 → QYw1P_31 b6 ∧ (¬(b6 < (0 : Int)) → QYw1P_3 ∧ ∀ (b7 : Int), b7 = IntKind.wrap .i64 (u5 + (1 : Int)) → ∃ (b8
 : MnB), (((0 : Int) ≤ b8.2 ∧ b8.2 ≤ (↑u4.5 : Int)) ∧ QYw1P_18 b8.1.1 ∧ b8.1.1.3 + b8.1.1.4 = u4.2 + u4.3) ∧ Int.toNat ((↑u4.5 : Int) - b8.2) < Int.toNat ((↑u4.5 : Int) - u5) ∧
 QYw1P_20 u4 b8.2 b7 ∧ ((True ∧ (0 = 0 ∧ 1 = 1 ∧ 1 = 1) ∧ True) ∧ (1 = 1 ∧ QYw1P_13 b8.1.1.2 u2) ∧ (2 = 2 ∧ b8.1.1.3 = u0 ∧ b8.1.1.4 = u1 ∧ True) ∧ QYw1P_1 b8.1.1.1 u3 b8.1.1.2 u2)
 ∧ True)))) ∧ True) ∧ True
set_option maxHeartbeats 3200000 in
def TL2 (u0 : Int) (u1 : Int) (u2 : Int) (u3 : Int) (u4 : PoA) (u5 : PoA) (u6 : RuA) (u7 : RuA) (u8 : MnA) (u9 : Int) : Prop := (True ∧ (smQ u0 ∧ smQ u1) ∧ smQ u2 ∧ smQ u3) ∧ ((0 = 0 ∧ True) ∧ (True ∧ (0 = 0 ∧ 2 = 2 ∧ 2 = 2) ∧ True) ∧ (2 = 2 ∧ QYw1P_4 u4 u5) ∧ (2 = 2 ∧ u2 = u2 ∧ u3 = u3 ∧ True) ∧ (2 = 2 ∧
 u0 = u0 ∧ u1 = u1 ∧ True) ∧ QYw1P_26) ∧ (∀ (_ : Unit), True → (True ∧ (isGx u6 u4 ∧ smQ u2 ∧ smQ u3) ∧ isGx u7 u5 ∧ smQ u0 ∧ smQ u1) ∧ ((0 = 0 ∧ True) ∧ (True ∧ (0 = 0 ∧ 2 = 2 ∧ 2
 = 2) ∧ True) ∧ (True ∧ QYw1P_4 u4 u5) ∧ (True ∧ u2 = u2 ∧ u3 = u3 ∧ True) ∧ (True ∧ u0 = u0 ∧ u1 = u1 ∧ True) ∧ QYw1P_30 u6 u4 u7 u5) ∧ (∀ (b1 : XyB), PayD 1 (PyA.mk (GvA.mk u6 u4
 u2 u3) (GvA.mk u7 u5 u0 u1) (GvA.mk u6 u4 u2 u3) (GvA.mk u6 u4 u2 u3)) b1 → ∀ (b2 : Int), b2 = IntKind.wrap .i64 ((0 : Int) + sumX 2 (StA.mk (OuA.mk u4.4 u4.5 u4.6 u4.7 u4.8 u2 u3)
 (OuA.mk (0 : Int) (0 : Int) (0 : Int) (0 : Int) (0 : Int) (0 : Int) (0 : Int)) (OuA.mk (0 : Int) (0 : Int) (0 : Int) (0 : Int) (0 : Int) (0 : Int) (0 : Int)) u7 u5 u0 u1)) → ∀ (b3
 : Int), b3 = IntKind.wrap .i64 (b2 + sumY 2 (StA.mk (OuA.mk u4.4 u4.5 u4.6 u4.7 u4.8 u2 u3) (OuA.mk (0 : Int) (0 : Int) (0 : Int) (0 : Int) (0 : Int) (0 : Int) (0 : Int)) (OuA.mk
 (0 : Int) (0 : Int) (0 : Int) (0 : Int) (0 : Int) (0 : Int) (0 : Int)) u7 u5 u0 u1)) → (b3 ≠ u8.2 + u8.3 → QYw1P_12) ∧ (¬(b3 ≠ u8.2 + u8.3) → ∀ (b4 : Int), b4 = IntKind.wrap .i64
 ((0 : Int) + b1.1) → ∀ (b5 : Int), b5 = IntKind.wrap .i64 (b4 + b1.2) → (b5 ≠ u8.2 + u8.3 → QYw1P_3 ∧ (∃ (_ : Unit), True ∧ true = false ∧ True)) ∧ (¬(b5 ≠ u8.2 + u8.3) → ∀ (b6 :
 Int), b6 = Min.min (Min.min (Min.min (sumX 2 (StA.mk (OuA.mk u4.4 u4.5 u4.6 u4.7 u4.8 u2 u3) (OuA.mk (0 : Int) (0 : Int) (0 : Int) (0 : Int) (0 : Int) (0 : Int) (0 : Int)) (OuA.mk
 (0 : Int) (0 : Int) (0 : Int) (0 : Int) (0 : Int) (0 : Int) (0 : Int)) u7 u5 u0 u1)) (sumY 2 (StA.mk (OuA.mk u4.4 u4.5 u4.6 u4.7 u4.8 u2 u3) (OuA.mk (0 : Int) (0 : Int) (0 : Int)
 (0 : Int) (0 : Int) (0 : Int) (0 : Int)) (OuA.mk (0 : Int) (0 : Int) (0 : Int) (0 : Int) (0 : Int) (0 : Int) (0 : Int)) u7 u5 u0 u1))) b1.1) b1.2 → QYw1P_31 b6 ∧ (¬(b6 < (0 : Int))
 → QYw1P_3 ∧ ∀ (b7 : Int), b7 = IntKind.wrap .i64 (u9 + (1 : Int)) → ∃ (b8 : MnB), (((0 : Int) ≤ b8.2 ∧ b8.2 ≤ (↑u8.5 : Int)) ∧ (QYw1P_18 b8.1.1 ∧ QYw1P_18 b8.1.2) ∧ b8.1.1.3 +
 b8.1.1.4 + (b8.1.2.3 + b8.1.2.4) = u8.2 + u8.3) ∧ Int.toNat ((↑u8.5 : Int) - b8.2) < Int.toNat ((↑u8.5 : Int) - u9) ∧ QYw1P_20 u8 b8.2 b7 ∧ ((True ∧ (0 = 0 ∧ 2 = 2 ∧ 2 = 2) ∧ True)
 ∧ (2 = 2 ∧ QYw1P_25 b8.1.1.2 u4 b8.1.2.2 u5) ∧ (2 = 2 ∧ b8.1.1.3 = u2 ∧ b8.1.1.4 = u3 ∧ True) ∧ (2 = 2 ∧ b8.1.2.3 = u0 ∧ b8.1.2.4 = u1 ∧ True) ∧ QYw1P_6 b8.1.1.1 u6 b8.1.1.2 u4
 b8.1.2.1 u7 b8.1.2.2 u5) ∧ True)))) ∧ True) ∧ True
set_option maxHeartbeats 3200000 in
def TL3 (u0 : Int) (u1 : Int) (u2 : Int) (u3 : Int) (u4 : Int) (u5 : Int) (u6 : PoA) (u7 : PoA) (u8 : PoA) (u9 : RuA) (u10 : RuA) (u11 : RuA) (u12 : MnA) (u13 : Int) : Prop :=
 (True ∧ (smQ u0 ∧ smQ u1) ∧ (smQ u2 ∧ smQ u3) ∧ smQ u4 ∧ smQ u5) ∧ ((0 = 0 ∧ True) ∧ (True ∧ (0 = 0 ∧ 3 = 3 ∧ 3 = 3) ∧ True) ∧ (3 = 3 ∧ QYw1P_16 u6 u7 u8) ∧ (2 = 2 ∧ u2 = u2 ∧ u3 =
 u3 ∧ True) ∧ (2 = 2 ∧ u4 = u4 ∧ u5 = u5 ∧ True) ∧ (2 = 2 ∧ u0 = u0 ∧ u1 = u1 ∧ True) ∧ (True ∧ True) ∧ (True ∧ True) ∧ (True ∧ True) ∧ (True ∧ True) ∧ QYw1P_26) ∧ (∀ (_ : Unit),
 True → (True ∧ (isGx u9 u6 ∧ smQ u2 ∧ smQ u3) ∧ (isGx u10 u7 ∧ smQ u4 ∧ smQ u5) ∧ isGx u11 u8 ∧ smQ u0 ∧ smQ u1) ∧ ((0 = 0 ∧ True) ∧ (True ∧ (0 = 0 ∧ 3 = 3 ∧ 3 = 3) ∧ True) ∧ (True
 ∧ QYw1P_16 u6 u7 u8) ∧ (True ∧ u2 = u2 ∧ u3 = u3 ∧ True) ∧ (True ∧ u4 = u4 ∧ u5 = u5 ∧ True) ∧ (True ∧ u0 = u0 ∧ u1 = u1 ∧ True) ∧ QYw1P_10 u9 ∧ QYw1P_8 ∧ QYw1P_7 u9 ∧ QYw1P_9 ∧ ZF
 u9.11 ∧ ZF u9.12 ∧ ZF u9.13 ∧ ZF u9.14 ∧ ZF u9.15 ∧ ZF u9.16 ∧ ZF u9.17 ∧ ZF u9.18 ∧ ZF u6.1 ∧ ZF u6.2 ∧ ZF u6.3 ∧ QYw1P_30 u10 u7 u11 u8) ∧ (∀ (b1 : XyB), PayD 2 (PyA.mk (GvA.mk
 u9 u6 u2 u3) (GvA.mk u10 u7 u4 u5) (GvA.mk u11 u8 u0 u1) (GvA.mk u9 u6 u2 u3)) b1 → ∀ (b2 : Int), b2 = IntKind.wrap .i64 ((0 : Int) + sumX 3 (StA.mk (OuA.mk u6.4 u6.5 u6.6 u6.7
 u6.8 u2 u3) (OuA.mk u7.4 u7.5 u7.6 u7.7 u7.8 u4 u5) (OuA.mk (0 : Int) (0 : Int) (0 : Int) (0 : Int) (0 : Int) (0 : Int) (0 : Int)) u11 u8 u0 u1)) → ∀ (b3 : Int), b3 = IntKind.wrap
 .i64 (b2 + sumY 3 (StA.mk (OuA.mk u6.4 u6.5 u6.6 u6.7 u6.8 u2 u3) (OuA.mk u7.4 u7.5 u7.6 u7.7 u7.8 u4 u5) (OuA.mk (0 : Int) (0 : Int) (0 : Int) (0 : Int) (0 : Int) (0 : Int) (0 :
 Int)) u11 u8 u0 u1)) → (b3 ≠ u12.2 + u12.3 → QYw1P_12) ∧ (¬(b3 ≠ u12.2 + u12.3) → ∀ (b4 : Int), b4 = IntKind.wrap .i64 ((0 : Int) + b1.1) → ∀ (b5 : Int), b5 = IntKind.wrap .i64 (b4
 + b1.2) → (b5 ≠ u12.2 + u12.3 → QYw1P_3 ∧ (∃ (_ : Unit), True ∧ true = false ∧ True)) ∧ (¬(b5 ≠ u12.2 + u12.3) → ∀ (b6 : Int), b6 = Min.min (Min.min (Min.min (sumX 3 (StA.mk
 (OuA.mk u6.4 u6.5 u6.6 u6.7 u6.8 u2 u3) (OuA.mk u7.4 u7.5 u7.6 u7.7 u7.8 u4 u5) (OuA.mk (0 : Int) (0 : Int) (0 : Int) (0 : Int) (0 : Int) (0 : Int) (0 : Int)) u11 u8 u0 u1)) (sumY
 3 (StA.mk (OuA.mk u6.4 u6.5 u6.6 u6.7 u6.8 u2 u3) (OuA.mk u7.4 u7.5 u7.6 u7.7 u7.8 u4 u5) (OuA.mk (0 : Int) (0 : Int) (0 : Int) (0 : Int) (0 : Int) (0 : Int) (0 : Int)) u11 u8 u0
 u1))) b1.1) b1.2 → QYw1P_31 b6 ∧ (¬(b6 < (0 : Int)) → QYw1P_3 ∧ ∀ (b7 : Int), b7 = IntKind.wrap .i64 (u13 + (1 : Int)) → ∃ (b8 : MnB), (((0 : Int) ≤ b8.2 ∧ b8.2 ≤ (↑u12.5 : Int)) ∧
 (QYw1P_18 b8.1.1 ∧ QYw1P_18 b8.1.2 ∧ QYw1P_18 b8.1.3) ∧ b8.1.1.3 + b8.1.1.4 + (b8.1.2.3 + b8.1.2.4) + (b8.1.3.3 + b8.1.3.4) = u12.2 + u12.3) ∧ Int.toNat ((↑u12.5 : Int) - b8.2) <
 Int.toNat ((↑u12.5 : Int) - u13) ∧ QYw1P_20 u12 b8.2 b7 ∧ ((True ∧ (0 = 0 ∧ 3 = 3 ∧ 3 = 3) ∧ True) ∧ (3 = 3 ∧ 0 = 0 ∧ (0 = 0 ∧ 2 = 2 ∧ 2 = 2) ∧ (0 = 0 ∧ 2 = 2 ∧ 2 = 2) ∧ (0 = 0 ∧ 2
 = 2 ∧ 2 = 2) ∧ b8.1.1.2.4 = u6.4 ∧ b8.1.1.2.5 = u6.5 ∧ b8.1.1.2.6 = u6.6 ∧ b8.1.1.2.7 = u6.7 ∧ b8.1.1.2.8 = u6.8 ∧ (0 = 0 ∧ 2 = 2 ∧ 2 = 2) ∧ QYw1P_25 b8.1.2.2 u7 b8.1.3.2 u8) ∧ (2
 = 2 ∧ b8.1.1.3 = u2 ∧ b8.1.1.4 = u3 ∧ True) ∧ (2 = 2 ∧ b8.1.2.3 = u4 ∧ b8.1.2.4 = u5 ∧ True) ∧ (2 = 2 ∧ b8.1.3.3 = u0 ∧ b8.1.3.4 = u1 ∧ True) ∧ QYw1P_14 b8.1.1.1 u9 ∧ QYw1P_8 ∧
 QYw1P_11 b8.1.1.1 u9 ∧ QYw1P_9 ∧ (True ∧ FlatL b8.1.1.1.11 ∧ b8.1.1.1.11 = u9.11) ∧ (True ∧ FlatL b8.1.1.1.12 ∧ b8.1.1.1.12 = u9.12) ∧ (True ∧ FlatL b8.1.1.1.13 ∧ b8.1.1.1.13 =
 u9.13) ∧ (True ∧ FlatL b8.1.1.1.14 ∧ b8.1.1.1.14 = u9.14) ∧ (True ∧ FlatL b8.1.1.1.15 ∧ b8.1.1.1.15 = u9.15) ∧ (True ∧ FlatL b8.1.1.1.16 ∧ b8.1.1.1.16 = u9.16) ∧ (True ∧ FlatL
 b8.1.1.1.17 ∧ b8.1.1.1.17 = u9.17) ∧ (True ∧ FlatL b8.1.1.1.18 ∧ b8.1.1.1.18 = u9.18) ∧ (True ∧ FlatL b8.1.1.2.1 ∧ b8.1.1.2.1 = u6.1) ∧ (True ∧ FlatL b8.1.1.2.2 ∧ b8.1.1.2.2 =
 u6.2) ∧ (True ∧ FlatL b8.1.1.2.3 ∧ b8.1.1.2.3 = u6.3) ∧ QYw1P_6 b8.1.2.1 u10 b8.1.2.2 u7 b8.1.3.1 u11 b8.1.3.2 u8) ∧ True)))) ∧ True) ∧ True
set_option maxHeartbeats 3200000 in
def TL4 (u0 : Int) (u1 : Int) (u2 : Int) (u3 : Int) (u4 : Int) (u5 : Int) (u6 : Int) (u7 : Int) (u8 : PoA) (u9 : PoA) (u10 : PoA) (u11 : PoA) (u12 : RuA) (u13 : RuA) (u14 : RuA)
 (u15 : RuA) (u16 : MnA) (u17 : Int) : Prop := (True ∧ (smQ u0 ∧ smQ u1) ∧ (smQ u2 ∧ smQ u3) ∧ (smQ u4 ∧ smQ u5) ∧ smQ u6 ∧ smQ u7) ∧ ((0 = 0 ∧ True) ∧ (True ∧ (0 = 0 ∧ 4 = 4 ∧ 4 =
 4) ∧ True) ∧ (4 = 4 ∧ 0 = 0 ∧ (0 = 0 ∧ 2 = 2 ∧ 2 = 2) ∧ (0 = 0 ∧ 2 = 2 ∧ 2 = 2) ∧ (0 = 0 ∧ 2 = 2 ∧ 2 = 2) ∧ Z1 u8.4 ∧ Z1 u8.5 ∧ Z1 u8.6 ∧ Z1 u8.7 ∧ Z1 u8.8 ∧ (0 = 0 ∧ 2 = 2 ∧ 2 =
 2) ∧ 0 = 0 ∧ (0 = 0 ∧ 2 = 2 ∧ 2 = 2) ∧ (0 = 0 ∧ 2 = 2 ∧ 2 = 2) ∧ (0 = 0 ∧ 2 = 2 ∧ 2 = 2) ∧ Z1 u9.4 ∧ Z1 u9.5 ∧ Z1 u9.6 ∧ Z1 u9.7 ∧ Z1 u9.8 ∧ (0 = 0 ∧ 2 = 2 ∧ 2 = 2) ∧ 0 = 0 ∧ (0 =
 0 ∧ 2 = 2 ∧ 2 = 2) ∧ (0 = 0 ∧ 2 = 2 ∧ 2 = 2) ∧ (0 = 0 ∧ 2 = 2 ∧ 2 = 2) ∧ Z1 u10.4 ∧ Z1 u10.5 ∧ Z1 u10.6 ∧ Z1 u10.7 ∧ Z1 u10.8 ∧ (0 = 0 ∧ 2 = 2 ∧ 2 = 2) ∧ 0 = 0 ∧ (0 = 0 ∧ 2 = 2 ∧ 2
 = 2) ∧ (0 = 0 ∧ 2 = 2 ∧ 2 = 2) ∧ (0 = 0 ∧ 2 = 2 ∧ 2 = 2) ∧ Z1 u11.4 ∧ Z1 u11.5 ∧ Z1 u11.6 ∧ Z1 u11.7 ∧ Z1 u11.8 ∧ (0 = 0 ∧ 2 = 2 ∧ 2 = 2) ∧ True) ∧ (2 = 2 ∧ u2 = u2 ∧ u3 = u3 ∧
 True) ∧ (2 = 2 ∧ u4 = u4 ∧ u5 = u5 ∧ True) ∧ (2 = 2 ∧ u6 = u6 ∧ u7 = u7 ∧ True) ∧ (2 = 2 ∧ u0 = u0 ∧ u1 = u1 ∧ True) ∧ (True ∧ True) ∧ (True ∧ True) ∧ (True ∧ True) ∧ (True ∧ True)
 ∧ (True ∧ True) ∧ (True ∧ True) ∧ (True ∧ True) ∧ (True ∧ True) ∧ (True ∧ True) ∧ (True ∧ True) ∧ (True ∧ True) ∧ (True ∧ True) ∧ (True ∧ True) ∧ (True ∧ True) ∧ (True ∧ True) ∧
 (True ∧ True) ∧ True) ∧ (∀ (_ : Unit), True → (True ∧ (isGx u12 u8 ∧ smQ u2 ∧ smQ u3) ∧ (isGx u13 u9 ∧ smQ u4 ∧ smQ u5) ∧ (isGx u14 u10 ∧ smQ u6 ∧ smQ u7) ∧ isGx u15 u11 ∧ smQ u0 ∧
 smQ u1) ∧ ((0 = 0 ∧ True) ∧ (True ∧ (0 = 0 ∧ 4 = 4 ∧ 4 = 4) ∧ True) ∧ (True ∧ 0 = 0 ∧ (0 = 0 ∧ 2 = 2 ∧ 2 = 2) ∧ (0 = 0 ∧ 2 = 2 ∧ 2 = 2) ∧ (0 = 0 ∧ 2 = 2 ∧ 2 = 2) ∧ Z1 u8.4 ∧ Z1
 u8.5 ∧ Z1 u8.6 ∧ Z1 u8.7 ∧ Z1 u8.8 ∧ (0 = 0 ∧ 2 = 2 ∧ 2 = 2) ∧ 0 = 0 ∧ (0 = 0 ∧ 2 = 2 ∧ 2 = 2) ∧ (0 = 0 ∧ 2 = 2 ∧ 2 = 2) ∧ (0 = 0 ∧ 2 = 2 ∧ 2 = 2) ∧ Z1 u9.4 ∧ Z1 u9.5 ∧ Z1 u9.6 ∧
 Z1 u9.7 ∧ Z1 u9.8 ∧ (0 = 0 ∧ 2 = 2 ∧ 2 = 2) ∧ 0 = 0 ∧ (0 = 0 ∧ 2 = 2 ∧ 2 = 2) ∧ (0 = 0 ∧ 2 = 2 ∧ 2 = 2) ∧ (0 = 0 ∧ 2 = 2 ∧ 2 = 2) ∧ Z1 u10.4 ∧ Z1 u10.5 ∧ Z1 u10.6 ∧ Z1 u10.7 ∧ Z1
 u10.8 ∧ (0 = 0 ∧ 2 = 2 ∧ 2 = 2) ∧ 0 = 0 ∧ (0 = 0 ∧ 2 = 2 ∧ 2 = 2) ∧ (0 = 0 ∧ 2 = 2 ∧ 2 = 2) ∧ (0 = 0 ∧ 2 = 2 ∧ 2 = 2) ∧ Z1 u11.4 ∧ Z1 u11.5 ∧ Z1 u11.6 ∧ Z1 u11.7 ∧ Z1 u11.8 ∧ (0 =
 0 ∧ 2 = 2 ∧ 2 = 2) ∧ True) ∧ (True ∧ u2 = u2 ∧ u3 = u3 ∧ True) ∧ (True ∧ u4 = u4 ∧ u5 = u5 ∧ True) ∧ (True ∧ u6 = u6 ∧ u7 = u7 ∧ True) ∧ (True ∧ u0 = u0 ∧ u1 = u1 ∧ True) ∧ (True ∧
 True ∧ (0 = 0 ∧ 2 = 2 ∧ 2 = 2) ∧ Z1 u12.19.1 ∧ Z1 u12.19.2 ∧ Z1 u12.19.3 ∧ Z1 u12.19.4 ∧ Z1 u12.19.5 ∧ Z1 u12.19.6 ∧ Z1 u12.19.7 ∧ Z1 u12.19.8 ∧ 0 = 0 ∧ (0 = 0 ∧ 1 = 1 ∧ 1 = 1) ∧
 (0 = 0 ∧ 2 = 2 ∧ 2 = 2) ∧ True) ∧ (True ∧ FlatL [Value.int .i64 1, Value.int .i64 1] ∧ [Value.int .i64 1, Value.int .i64 1] = [Value.int .i64 1, Value.int .i64 1]) ∧ (True ∧ (2 :
 Int) = 2 ∧ (2 : Int) = 2 ∧ (0 = 0 ∧ 2 = 2 ∧ 2 = 2) ∧ (0 = 0 ∧ 1 = 1 ∧ 1 = 1) ∧ (0 = 0 ∧ Z1 u12.1 ∧ Z1 u12.1) ∧ (0 = 0 ∧ Z1 u12.2 ∧ Z1 u12.2) ∧ (0 = 0 ∧ Z1 u12.3 ∧ Z1 u12.3) ∧ (0 =
 0 ∧ Z1 u12.4 ∧ Z1 u12.4) ∧ (0 = 0 ∧ Z1 u12.5 ∧ Z1 u12.5) ∧ Z1 u12.6 ∧ Z1 u12.7 ∧ Z1 u12.8 ∧ Z1 u12.9 ∧ Z1 u12.10 ∧ True) ∧ (True ∧ FlatL [Value.int .i32 0, Value.int .i32 0] ∧
 [Value.int .i32 0, Value.int .i32 0] = [Value.int .i32 0, Value.int .i32 0]) ∧ ZF u12.11 ∧ ZF u12.12 ∧ ZF u12.13 ∧ ZF u12.14 ∧ ZF u12.15 ∧ ZF u12.16 ∧ ZF u12.17 ∧ ZF u12.18 ∧ ZF
 u8.1 ∧ ZF u8.2 ∧ ZF u8.3 ∧ (True ∧ True ∧ (0 = 0 ∧ 2 = 2 ∧ 2 = 2) ∧ Z1 u13.19.1 ∧ Z1 u13.19.2 ∧ Z1 u13.19.3 ∧ Z1 u13.19.4 ∧ Z1 u13.19.5 ∧ Z1 u13.19.6 ∧ Z1 u13.19.7 ∧ Z1 u13.19.8 ∧
 0 = 0 ∧ (0 = 0 ∧ 1 = 1 ∧ 1 = 1) ∧ (0 = 0 ∧ 2 = 2 ∧ 2 = 2) ∧ True) ∧ (True ∧ FlatL [Value.int .i64 1, Value.int .i64 1] ∧ [Value.int .i64 1, Value.int .i64 1] = [Value.int .i64 1,
 Value.int .i64 1]) ∧ (True ∧ (2 : Int) = 2 ∧ (2 : Int) = 2 ∧ (0 = 0 ∧ 2 = 2 ∧ 2 = 2) ∧ (0 = 0 ∧ 1 = 1 ∧ 1 = 1) ∧ (0 = 0 ∧ Z1 u13.1 ∧ Z1 u13.1) ∧ (0 = 0 ∧ Z1 u13.2 ∧ Z1 u13.2) ∧ (0
 = 0 ∧ Z1 u13.3 ∧ Z1 u13.3) ∧ (0 = 0 ∧ Z1 u13.4 ∧ Z1 u13.4) ∧ (0 = 0 ∧ Z1 u13.5 ∧ Z1 u13.5) ∧ Z1 u13.6 ∧ Z1 u13.7 ∧ Z1 u13.8 ∧ Z1 u13.9 ∧ Z1 u13.10 ∧ True) ∧ (True ∧ FlatL
 [Value.int .i32 0, Value.int .i32 0] ∧ [Value.int .i32 0, Value.int .i32 0] = [Value.int .i32 0, Value.int .i32 0]) ∧ ZF u13.11 ∧ ZF u13.12 ∧ ZF u13.13 ∧ ZF u13.14 ∧ ZF u13.15 ∧ ZF
 u13.16 ∧ ZF u13.17 ∧ ZF u13.18 ∧ ZF u9.1 ∧ ZF u9.2 ∧ ZF u9.3 ∧ (True ∧ True ∧ (0 = 0 ∧ 2 = 2 ∧ 2 = 2) ∧ Z1 u14.19.1 ∧ Z1 u14.19.2 ∧ Z1 u14.19.3 ∧ Z1 u14.19.4 ∧ Z1 u14.19.5 ∧ Z1
 u14.19.6 ∧ Z1 u14.19.7 ∧ Z1 u14.19.8 ∧ 0 = 0 ∧ (0 = 0 ∧ 1 = 1 ∧ 1 = 1) ∧ (0 = 0 ∧ 2 = 2 ∧ 2 = 2) ∧ True) ∧ (True ∧ FlatL [Value.int .i64 1, Value.int .i64 1] ∧ [Value.int .i64 1,
 Value.int .i64 1] = [Value.int .i64 1, Value.int .i64 1]) ∧ (True ∧ (2 : Int) = 2 ∧ (2 : Int) = 2 ∧ (0 = 0 ∧ 2 = 2 ∧ 2 = 2) ∧ (0 = 0 ∧ 1 = 1 ∧ 1 = 1) ∧ (0 = 0 ∧ Z1 u14.1 ∧ Z1
 u14.1) ∧ (0 = 0 ∧ Z1 u14.2 ∧ Z1 u14.2) ∧ (0 = 0 ∧ Z1 u14.3 ∧ Z1 u14.3) ∧ (0 = 0 ∧ Z1 u14.4 ∧ Z1 u14.4) ∧ (0 = 0 ∧ Z1 u14.5 ∧ Z1 u14.5) ∧ Z1 u14.6 ∧ Z1 u14.7 ∧ Z1 u14.8 ∧ Z1 u14.9 ∧
 Z1 u14.10 ∧ True) ∧ (True ∧ FlatL [Value.int .i32 0, Value.int .i32 0] ∧ [Value.int .i32 0, Value.int .i32 0] = [Value.int .i32 0, Value.int .i32 0]) ∧ ZF u14.11 ∧ ZF u14.12 ∧ ZF
 u14.13 ∧ ZF u14.14 ∧ ZF u14.15 ∧ ZF u14.16 ∧ ZF u14.17 ∧ ZF u14.18 ∧ ZF u10.1 ∧ ZF u10.2 ∧ ZF u10.3 ∧ (True ∧ True ∧ (0 = 0 ∧ 2 = 2 ∧ 2 = 2) ∧ Z1 u15.19.1 ∧ Z1 u15.19.2 ∧ Z1
 u15.19.3 ∧ Z1 u15.19.4 ∧ Z1 u15.19.5 ∧ Z1 u15.19.6 ∧ Z1 u15.19.7 ∧ Z1 u15.19.8 ∧ 0 = 0 ∧ (0 = 0 ∧ 1 = 1 ∧ 1 = 1) ∧ (0 = 0 ∧ 2 = 2 ∧ 2 = 2) ∧ True) ∧ (True ∧ FlatL [Value.int .i64
 1, Value.int .i64 1] ∧ [Value.int .i64 1, Value.int .i64 1] = [Value.int .i64 1, Value.int .i64 1]) ∧ (True ∧ (2 : Int) = 2 ∧ (2 : Int) = 2 ∧ (0 = 0 ∧ 2 = 2 ∧ 2 = 2) ∧ (0 = 0 ∧ 1 =
 1 ∧ 1 = 1) ∧ (0 = 0 ∧ Z1 u15.1 ∧ Z1 u15.1) ∧ (0 = 0 ∧ Z1 u15.2 ∧ Z1 u15.2) ∧ (0 = 0 ∧ Z1 u15.3 ∧ Z1 u15.3) ∧ (0 = 0 ∧ Z1 u15.4 ∧ Z1 u15.4) ∧ (0 = 0 ∧ Z1 u15.5 ∧ Z1 u15.5) ∧ Z1
 u15.6 ∧ Z1 u15.7 ∧ Z1 u15.8 ∧ Z1 u15.9 ∧ Z1 u15.10 ∧ True) ∧ (True ∧ FlatL [Value.int .i32 0, Value.int .i32 0] ∧ [Value.int .i32 0, Value.int .i32 0] = [Value.int .i32 0,
 Value.int .i32 0]) ∧ ZF u15.11 ∧ ZF u15.12 ∧ ZF u15.13 ∧ ZF u15.14 ∧ ZF u15.15 ∧ ZF u15.16 ∧ ZF u15.17 ∧ ZF u15.18 ∧ ZF u11.1 ∧ ZF u11.2 ∧ ZF u11.3 ∧ ZF cells2 ∧ True) ∧ (∀ (b1 :
 XyB), PayD 3 (PyA.mk (GvA.mk u12 u8 u2 u3) (GvA.mk u13 u9 u4 u5) (GvA.mk u14 u10 u6 u7) (GvA.mk u15 u11 u0 u1)) b1 → ∀ (b2 : Int), b2 = IntKind.wrap .i64 ((0 : Int) + sumX 4
 (StA.mk (OuA.mk u8.4 u8.5 u8.6 u8.7 u8.8 u2 u3) (OuA.mk u9.4 u9.5 u9.6 u9.7 u9.8 u4 u5) (OuA.mk u10.4 u10.5 u10.6 u10.7 u10.8 u6 u7) u15 u11 u0 u1)) → ∀ (b3 : Int), b3 =
 IntKind.wrap .i64 (b2 + sumY 4 (StA.mk (OuA.mk u8.4 u8.5 u8.6 u8.7 u8.8 u2 u3) (OuA.mk u9.4 u9.5 u9.6 u9.7 u9.8 u4 u5) (OuA.mk u10.4 u10.5 u10.6 u10.7 u10.8 u6 u7) u15 u11 u0 u1))
 → (b3 ≠ u16.2 + u16.3 → (True ∧ True ∧ True ∧ True ∧ True ∧ True ∧ True ∧ True ∧ True ∧ True ∧ True ∧ (True ∧ True) ∧ True ∧ True ∧ True ∧ True ∧ True ∧ True ∧ True ∧ True ∧ True ∧
 True ∧ True ∧ True ∧ True ∧ True ∧ True ∧ True ∧ True ∧ True ∧ True ∧ True ∧ True ∧ True ∧ True ∧ True ∧ True) ∧ (∃ (_ : Unit), True ∧ true = false ∧ True)) ∧ (¬(b3 ≠ u16.2 +
 u16.3) → ∀ (b4 : Int), b4 = IntKind.wrap .i64 ((0 : Int) + b1.1) → ∀ (b5 : Int), b5 = IntKind.wrap .i64 (b4 + b1.2) → (b5 ≠ u16.2 + u16.3 → (True ∧ True ∧ True ∧ True ∧ True ∧ True
 ∧ True ∧ True ∧ True ∧ True ∧ True ∧ (True ∧ True) ∧ True ∧ True ∧ True ∧ True ∧ True ∧ (True ∧ True) ∧ True ∧ True ∧ True ∧ True ∧ True ∧ True ∧ True ∧ True ∧ True ∧ True ∧ True ∧
 True ∧ True ∧ True ∧ True ∧ True ∧ True ∧ True ∧ True) ∧ (∃ (_ : Unit), True ∧ true = false ∧ True)) ∧ (¬(b5 ≠ u16.2 + u16.3) → ∀ (b6 : Int), b6 = Min.min (Min.min (Min.min (sumX 4
 (StA.mk (OuA.mk u8.4 u8.5 u8.6 u8.7 u8.8 u2 u3) (OuA.mk u9.4 u9.5 u9.6 u9.7 u9.8 u4 u5) (OuA.mk u10.4 u10.5 u10.6 u10.7 u10.8 u6 u7) u15 u11 u0 u1)) (sumY 4 (StA.mk (OuA.mk u8.4
 u8.5 u8.6 u8.7 u8.8 u2 u3) (OuA.mk u9.4 u9.5 u9.6 u9.7 u9.8 u4 u5) (OuA.mk u10.4 u10.5 u10.6 u10.7 u10.8 u6 u7) u15 u11 u0 u1))) b1.1) b1.2 → (b6 < (0 : Int) → (True ∧ True ∧ True
 ∧ True ∧ True ∧ True ∧ True ∧ True ∧ True ∧ True ∧ True ∧ (True ∧ True) ∧ True ∧ True ∧ True ∧ True ∧ True ∧ (True ∧ True) ∧ True ∧ True ∧ True ∧ True ∧ True ∧ True ∧ True ∧ True ∧
 True ∧ True ∧ True ∧ True ∧ True ∧ True ∧ True ∧ True ∧ True ∧ True ∧ True) ∧ (∃ (_ : Unit), True ∧ true = false ∧ True)) ∧ (¬(b6 < (0 : Int)) → (True ∧ True ∧ True ∧ True ∧ True ∧
 True ∧ True ∧ True ∧ True ∧ True ∧ True ∧ (True ∧ True) ∧ True ∧ True ∧ True ∧ True ∧ True ∧ (True ∧ True) ∧ True ∧ True ∧ True ∧ True ∧ True ∧ True ∧ True ∧ True ∧ True ∧ True ∧
 True ∧ True ∧ True ∧ True ∧ True ∧ True ∧ True ∧ True ∧ True) ∧ ∀ (b7 : Int), b7 = IntKind.wrap .i64 (u17 + (1 : Int)) → ∃ (b8 : MnB), (((0 : Int) ≤ b8.2 ∧ b8.2 ≤ (↑u16.5 : Int)) ∧
 ((isGx b8.1.1.1 b8.1.1.2 ∧ smQ b8.1.1.3 ∧ smQ b8.1.1.4) ∧ (isGx b8.1.2.1 b8.1.2.2 ∧ smQ b8.1.2.3 ∧ smQ b8.1.2.4) ∧ (isGx b8.1.3.1 b8.1.3.2 ∧ smQ b8.1.3.3 ∧ smQ b8.1.3.4) ∧ isGx
 b8.1.4.1 b8.1.4.2 ∧ smQ b8.1.4.3 ∧ smQ b8.1.4.4) ∧ b8.1.1.3 + b8.1.1.4 + (b8.1.2.3 + b8.1.2.4) + (b8.1.3.3 + b8.1.3.4) + (b8.1.4.3 + b8.1.4.4) = u16.2 + u16.3) ∧ Int.toNat ((↑u16.5
 : Int) - b8.2) < Int.toNat ((↑u16.5 : Int) - u17) ∧ (0 = 0 ∧ u16.2 + u16.3 = u16.2 + u16.3 ∧ Value.slice u16.4 u16.5 u16.6 = Value.slice u16.4 u16.5 u16.6 ∧ (↑u16.5 : Int) =
 (↑u16.5 : Int) ∧ b8.2 = b7 ∧ True) ∧ ((True ∧ (0 = 0 ∧ 4 = 4 ∧ 4 = 4) ∧ True) ∧ (4 = 4 ∧ 0 = 0 ∧ (0 = 0 ∧ 2 = 2 ∧ 2 = 2) ∧ (0 = 0 ∧ 2 = 2 ∧ 2 = 2) ∧ (0 = 0 ∧ 2 = 2 ∧ 2 = 2) ∧
 b8.1.1.2.4 = u8.4 ∧ b8.1.1.2.5 = u8.5 ∧ b8.1.1.2.6 = u8.6 ∧ b8.1.1.2.7 = u8.7 ∧ b8.1.1.2.8 = u8.8 ∧ (0 = 0 ∧ 2 = 2 ∧ 2 = 2) ∧ 0 = 0 ∧ (0 = 0 ∧ 2 = 2 ∧ 2 = 2) ∧ (0 = 0 ∧ 2 = 2 ∧ 2 =
 2) ∧ (0 = 0 ∧ 2 = 2 ∧ 2 = 2) ∧ b8.1.2.2.4 = u9.4 ∧ b8.1.2.2.5 = u9.5 ∧ b8.1.2.2.6 = u9.6 ∧ b8.1.2.2.7 = u9.7 ∧ b8.1.2.2.8 = u9.8 ∧ (0 = 0 ∧ 2 = 2 ∧ 2 = 2) ∧ 0 = 0 ∧ (0 = 0 ∧ 2 = 2
 ∧ 2 = 2) ∧ (0 = 0 ∧ 2 = 2 ∧ 2 = 2) ∧ (0 = 0 ∧ 2 = 2 ∧ 2 = 2) ∧ b8.1.3.2.4 = u10.4 ∧ b8.1.3.2.5 = u10.5 ∧ b8.1.3.2.6 = u10.6 ∧ b8.1.3.2.7 = u10.7 ∧ b8.1.3.2.8 = u10.8 ∧ (0 = 0 ∧ 2 =
 2 ∧ 2 = 2) ∧ 0 = 0 ∧ (0 = 0 ∧ 2 = 2 ∧ 2 = 2) ∧ (0 = 0 ∧ 2 = 2 ∧ 2 = 2) ∧ (0 = 0 ∧ 2 = 2 ∧ 2 = 2) ∧ b8.1.4.2.4 = u11.4 ∧ b8.1.4.2.5 = u11.5 ∧ b8.1.4.2.6 = u11.6 ∧ b8.1.4.2.7 = u11.7
 ∧ b8.1.4.2.8 = u11.8 ∧ (0 = 0 ∧ 2 = 2 ∧ 2 = 2) ∧ True) ∧ (2 = 2 ∧ b8.1.1.3 = u2 ∧ b8.1.1.4 = u3 ∧ True) ∧ (2 = 2 ∧ b8.1.2.3 = u4 ∧ b8.1.2.4 = u5 ∧ True) ∧ (2 = 2 ∧ b8.1.3.3 = u6 ∧
 b8.1.3.4 = u7 ∧ True) ∧ (2 = 2 ∧ b8.1.4.3 = u0 ∧ b8.1.4.4 = u1 ∧ True) ∧ (True ∧ True ∧ (0 = 0 ∧ 2 = 2 ∧ 2 = 2) ∧ b8.1.1.1.19.1 = u12.19.1 ∧ b8.1.1.1.19.2 = u12.19.2 ∧
 b8.1.1.1.19.3 = u12.19.3 ∧ b8.1.1.1.19.4 = u12.19.4 ∧ b8.1.1.1.19.5 = u12.19.5 ∧ b8.1.1.1.19.6 = u12.19.6 ∧ b8.1.1.1.19.7 = u12.19.7 ∧ b8.1.1.1.19.8 = u12.19.8 ∧ 0 = 0 ∧ (0 = 0 ∧ 1
 = 1 ∧ 1 = 1) ∧ (0 = 0 ∧ 2 = 2 ∧ 2 = 2) ∧ True) ∧ (True ∧ FlatL [Value.int .i64 1, Value.int .i64 1] ∧ [Value.int .i64 1, Value.int .i64 1] = [Value.int .i64 1, Value.int .i64 1]) ∧
 (True ∧ (2 : Int) = 2 ∧ (2 : Int) = 2 ∧ (0 = 0 ∧ 2 = 2 ∧ 2 = 2) ∧ (0 = 0 ∧ 1 = 1 ∧ 1 = 1) ∧ (0 = 0 ∧ b8.1.1.1.1 = u12.1 ∧ b8.1.1.1.1 = u12.1) ∧ (0 = 0 ∧ b8.1.1.1.2 = u12.2 ∧
 b8.1.1.1.2 = u12.2) ∧ (0 = 0 ∧ b8.1.1.1.3 = u12.3 ∧ b8.1.1.1.3 = u12.3) ∧ (0 = 0 ∧ b8.1.1.1.4 = u12.4 ∧ b8.1.1.1.4 = u12.4) ∧ (0 = 0 ∧ b8.1.1.1.5 = u12.5 ∧ b8.1.1.1.5 = u12.5) ∧
 b8.1.1.1.6 = u12.6 ∧ b8.1.1.1.7 = u12.7 ∧ b8.1.1.1.8 = u12.8 ∧ b8.1.1.1.9 = u12.9 ∧ b8.1.1.1.10 = u12.10 ∧ True) ∧ (True ∧ FlatL [Value.int .i32 0, Value.int .i32 0] ∧ [Value.int
 .i32 0, Value.int .i32 0] = [Value.int .i32 0, Value.int .i32 0]) ∧ (True ∧ FlatL b8.1.1.1.11 ∧ b8.1.1.1.11 = u12.11) ∧ (True ∧ FlatL b8.1.1.1.12 ∧ b8.1.1.1.12 = u12.12) ∧ (True ∧
 FlatL b8.1.1.1.13 ∧ b8.1.1.1.13 = u12.13) ∧ (True ∧ FlatL b8.1.1.1.14 ∧ b8.1.1.1.14 = u12.14) ∧ (True ∧ FlatL b8.1.1.1.15 ∧ b8.1.1.1.15 = u12.15) ∧ (True ∧ FlatL b8.1.1.1.16 ∧
 b8.1.1.1.16 = u12.16) ∧ (True ∧ FlatL b8.1.1.1.17 ∧ b8.1.1.1.17 = u12.17) ∧ (True ∧ FlatL b8.1.1.1.18 ∧ b8.1.1.1.18 = u12.18) ∧ (True ∧ FlatL b8.1.1.2.1 ∧ b8.1.1.2.1 = u8.1) ∧
 (True ∧ FlatL b8.1.1.2.2 ∧ b8.1.1.2.2 = u8.2) ∧ (True ∧ FlatL b8.1.1.2.3 ∧ b8.1.1.2.3 = u8.3) ∧ (True ∧ True ∧ (0 = 0 ∧ 2 = 2 ∧ 2 = 2) ∧ b8.1.2.1.19.1 = u13.19.1 ∧ b8.1.2.1.19.2 =
 u13.19.2 ∧ b8.1.2.1.19.3 = u13.19.3 ∧ b8.1.2.1.19.4 = u13.19.4 ∧ b8.1.2.1.19.5 = u13.19.5 ∧ b8.1.2.1.19.6 = u13.19.6 ∧ b8.1.2.1.19.7 = u13.19.7 ∧ b8.1.2.1.19.8 = u13.19.8 ∧ 0 = 0 ∧
 (0 = 0 ∧ 1 = 1 ∧ 1 = 1) ∧ (0 = 0 ∧ 2 = 2 ∧ 2 = 2) ∧ True) ∧ (True ∧ FlatL [Value.int .i64 1, Value.int .i64 1] ∧ [Value.int .i64 1, Value.int .i64 1] = [Value.int .i64 1, Value.int
 .i64 1]) ∧ (True ∧ (2 : Int) = 2 ∧ (2 : Int) = 2 ∧ (0 = 0 ∧ 2 = 2 ∧ 2 = 2) ∧ (0 = 0 ∧ 1 = 1 ∧ 1 = 1) ∧ (0 = 0 ∧ b8.1.2.1.1 = u13.1 ∧ b8.1.2.1.1 = u13.1) ∧ (0 = 0 ∧ b8.1.2.1.2 =
 u13.2 ∧ b8.1.2.1.2 = u13.2) ∧ (0 = 0 ∧ b8.1.2.1.3 = u13.3 ∧ b8.1.2.1.3 = u13.3) ∧ (0 = 0 ∧ b8.1.2.1.4 = u13.4 ∧ b8.1.2.1.4 = u13.4) ∧ (0 = 0 ∧ b8.1.2.1.5 = u13.5 ∧ b8.1.2.1.5 =
 u13.5) ∧ b8.1.2.1.6 = u13.6 ∧ b8.1.2.1.7 = u13.7 ∧ b8.1.2.1.8 = u13.8 ∧ b8.1.2.1.9 = u13.9 ∧ b8.1.2.1.10 = u13.10 ∧ True) ∧ (True ∧ FlatL [Value.int .i32 0, Value.int .i32 0] ∧
 [Value.int .i32 0, Value.int .i32 0] = [Value.int .i32 0, Value.int .i32 0]) ∧ (True ∧ FlatL b8.1.2.1.11 ∧ b8.1.2.1.11 = u13.11) ∧ (True ∧ FlatL b8.1.2.1.12 ∧ b8.1.2.1.12 = u13.12)
 ∧ (True ∧ FlatL b8.1.2.1.13 ∧ b8.1.2.1.13 = u13.13) ∧ (True ∧ FlatL b8.1.2.1.14 ∧ b8.1.2.1.14 = u13.14) ∧ (True ∧ FlatL b8.1.2.1.15 ∧ b8.1.2.1.15 = u13.15) ∧ (True ∧ FlatL
 b8.1.2.1.16 ∧ b8.1.2.1.16 = u13.16) ∧ (True ∧ FlatL b8.1.2.1.17 ∧ b8.1.2.1.17 = u13.17) ∧ (True ∧ FlatL b8.1.2.1.18 ∧ b8.1.2.1.18 = u13.18) ∧ (True ∧ FlatL b8.1.2.2.1 ∧ b8.1.2.2.1
 = u9.1) ∧ (True ∧ FlatL b8.1.2.2.2 ∧ b8.1.2.2.2 = u9.2) ∧ (True ∧ FlatL b8.1.2.2.3 ∧ b8.1.2.2.3 = u9.3) ∧ (True ∧ True ∧ (0 = 0 ∧ 2 = 2 ∧ 2 = 2) ∧ b8.1.3.1.19.1 = u14.19.1 ∧
 b8.1.3.1.19.2 = u14.19.2 ∧ b8.1.3.1.19.3 = u14.19.3 ∧ b8.1.3.1.19.4 = u14.19.4 ∧ b8.1.3.1.19.5 = u14.19.5 ∧ b8.1.3.1.19.6 = u14.19.6 ∧ b8.1.3.1.19.7 = u14.19.7 ∧ b8.1.3.1.19.8 =
 u14.19.8 ∧ 0 = 0 ∧ (0 = 0 ∧ 1 = 1 ∧ 1 = 1) ∧ (0 = 0 ∧ 2 = 2 ∧ 2 = 2) ∧ True) ∧ (True ∧ FlatL [Value.int .i64 1, Value.int .i64 1] ∧ [Value.int .i64 1, Value.int .i64 1] =
 [Value.int .i64 1, Value.int .i64 1]) ∧ (True ∧ (2 : Int) = 2 ∧ (2 : Int) = 2 ∧ (0 = 0 ∧ 2 = 2 ∧ 2 = 2) ∧ (0 = 0 ∧ 1 = 1 ∧ 1 = 1) ∧ (0 = 0 ∧ b8.1.3.1.1 = u14.1 ∧ b8.1.3.1.1 =
 u14.1) ∧ (0 = 0 ∧ b8.1.3.1.2 = u14.2 ∧ b8.1.3.1.2 = u14.2) ∧ (0 = 0 ∧ b8.1.3.1.3 = u14.3 ∧ b8.1.3.1.3 = u14.3) ∧ (0 = 0 ∧ b8.1.3.1.4 = u14.4 ∧ b8.1.3.1.4 = u14.4) ∧ (0 = 0 ∧
 b8.1.3.1.5 = u14.5 ∧ b8.1.3.1.5 = u14.5) ∧ b8.1.3.1.6 = u14.6 ∧ b8.1.3.1.7 = u14.7 ∧ b8.1.3.1.8 = u14.8 ∧ b8.1.3.1.9 = u14.9 ∧ b8.1.3.1.10 = u14.10 ∧ True) ∧ (True ∧ FlatL
 [Value.int .i32 0, Value.int .i32 0] ∧ [Value.int .i32 0, Value.int .i32 0] = [Value.int .i32 0, Value.int .i32 0]) ∧ (True ∧ FlatL b8.1.3.1.11 ∧ b8.1.3.1.11 = u14.11) ∧ (True ∧
 FlatL b8.1.3.1.12 ∧ b8.1.3.1.12 = u14.12) ∧ (True ∧ FlatL b8.1.3.1.13 ∧ b8.1.3.1.13 = u14.13) ∧ (True ∧ FlatL b8.1.3.1.14 ∧ b8.1.3.1.14 = u14.14) ∧ (True ∧ FlatL b8.1.3.1.15 ∧
 b8.1.3.1.15 = u14.15) ∧ (True ∧ FlatL b8.1.3.1.16 ∧ b8.1.3.1.16 = u14.16) ∧ (True ∧ FlatL b8.1.3.1.17 ∧ b8.1.3.1.17 = u14.17) ∧ (True ∧ FlatL b8.1.3.1.18 ∧ b8.1.3.1.18 = u14.18) ∧
 (True ∧ FlatL b8.1.3.2.1 ∧ b8.1.3.2.1 = u10.1) ∧ (True ∧ FlatL b8.1.3.2.2 ∧ b8.1.3.2.2 = u10.2) ∧ (True ∧ FlatL b8.1.3.2.3 ∧ b8.1.3.2.3 = u10.3) ∧ (True ∧ True ∧ (0 = 0 ∧ 2 = 2 ∧ 2
 = 2) ∧ b8.1.4.1.19.1 = u15.19.1 ∧ b8.1.4.1.19.2 = u15.19.2 ∧ b8.1.4.1.19.3 = u15.19.3 ∧ b8.1.4.1.19.4 = u15.19.4 ∧ b8.1.4.1.19.5 = u15.19.5 ∧ b8.1.4.1.19.6 = u15.19.6 ∧
 b8.1.4.1.19.7 = u15.19.7 ∧ b8.1.4.1.19.8 = u15.19.8 ∧ 0 = 0 ∧ (0 = 0 ∧ 1 = 1 ∧ 1 = 1) ∧ (0 = 0 ∧ 2 = 2 ∧ 2 = 2) ∧ True) ∧ (True ∧ FlatL [Value.int .i64 1, Value.int .i64 1] ∧
 [Value.int .i64 1, Value.int .i64 1] = [Value.int .i64 1, Value.int .i64 1]) ∧ (True ∧ (2 : Int) = 2 ∧ (2 : Int) = 2 ∧ (0 = 0 ∧ 2 = 2 ∧ 2 = 2) ∧ (0 = 0 ∧ 1 = 1 ∧ 1 = 1) ∧ (0 = 0 ∧
 b8.1.4.1.1 = u15.1 ∧ b8.1.4.1.1 = u15.1) ∧ (0 = 0 ∧ b8.1.4.1.2 = u15.2 ∧ b8.1.4.1.2 = u15.2) ∧ (0 = 0 ∧ b8.1.4.1.3 = u15.3 ∧ b8.1.4.1.3 = u15.3) ∧ (0 = 0 ∧ b8.1.4.1.4 = u15.4 ∧
 b8.1.4.1.4 = u15.4) ∧ (0 = 0 ∧ b8.1.4.1.5 = u15.5 ∧ b8.1.4.1.5 = u15.5) ∧ b8.1.4.1.6 = u15.6 ∧ b8.1.4.1.7 = u15.7 ∧ b8.1.4.1.8 = u15.8 ∧ b8.1.4.1.9 = u15.9 ∧ b8.1.4.1.10 = u15.10 ∧
 True) ∧ (True ∧ FlatL [Value.int .i32 0, Value.int .i32 0] ∧ [Value.int .i32 0, Value.int .i32 0] = [Value.int .i32 0, Value.int .i32 0]) ∧ (True ∧ FlatL b8.1.4.1.11 ∧ b8.1.4.1.11
 = u15.11) ∧ (True ∧ FlatL b8.1.4.1.12 ∧ b8.1.4.1.12 = u15.12) ∧ (True ∧ FlatL b8.1.4.1.13 ∧ b8.1.4.1.13 = u15.13) ∧ (True ∧ FlatL b8.1.4.1.14 ∧ b8.1.4.1.14 = u15.14) ∧ (True ∧
 FlatL b8.1.4.1.15 ∧ b8.1.4.1.15 = u15.15) ∧ (True ∧ FlatL b8.1.4.1.16 ∧ b8.1.4.1.16 = u15.16) ∧ (True ∧ FlatL b8.1.4.1.17 ∧ b8.1.4.1.17 = u15.17) ∧ (True ∧ FlatL b8.1.4.1.18 ∧
 b8.1.4.1.18 = u15.18) ∧ (True ∧ FlatL b8.1.4.2.1 ∧ b8.1.4.2.1 = u11.1) ∧ (True ∧ FlatL b8.1.4.2.2 ∧ b8.1.4.2.2 = u11.2) ∧ (True ∧ FlatL b8.1.4.2.3 ∧ b8.1.4.2.3 = u11.3) ∧ ZF cells0
 ∧ ZF cells1 ∧ ZF cells2 ∧ ZF cells4 ∧ ZF cells5 ∧ ZF cells6 ∧ ZF cells8 ∧ ZF cells9 ∧ ZF cells10 ∧ True) ∧ True)))) ∧ True) ∧ True
end
set_option maxHeartbeats 3200000 in
theorem vc_money (a : MnA) : G_money a = ((True ∧ True) ∧ (True ∧ QYw1P_17) ∧ (∀ (_ : Unit), True → (True ∧ a.5 ≤ 9223372036854775807 ∧ (∀ (x1 : Nat), x1 < a.5 → ∃ (x2 x3 : Nat), W_G_money_0 a = W_G_money_1 x2 x3 ∧ actX1
x2 (x3 + x1 * 5))) ∧ ((Value.slice a.4 a.5 a.6 = Value.slice a.4 a.5 a.6 ∧ True) ∧ True) ∧ (∀ (_ : Unit), True → (True ∧ True) ∧ (True ∧ QYw1P_17) ∧ (∀ (_ : Unit), True → ∃ (_ :
Unit), True ∧ true = true ∧ True) ∧ True) ∧ (∀ (_ : Unit), Nat.le a.5 40 → (True ∧ (0 ≤ a.1 ∧ a.1 < 256) ∧ (0 ≤ a.2 ∧ a.2 < 65536) ∧ 0 ≤ a.3 ∧ a.3 < 65536) ∧ ((Z1 a.1 ∧ (Z1 a.2 ∧
Z1 a.3 ∧ True) ∧ True) ∧ QYw1P_17) ∧ (∀ (x8 : GtA), (∃ (x9 : Nat), (x9 = 0 ∨ x9 = 1) ∧ (↑x9 : Int) = a.1 % (2 : Int) ∧ isG x8.1 x8.2 x9 0) → ∀ (x10 : Int), x10 = IntKind.wrap .i64
a.2 → ∀ (x11 : Int), x11 = IntKind.wrap .i64 a.3 → ∀ (x12 : Int), x12 = IntKind.wrap .i64 (x10 + x11) → ∀ (x13 : Int), x13 = (↑a.5 : Int) → (∃ (x14 : MnB), ((0 ≤ x14.2 ∧ x14.2 ≤
(↑a.5 : Int)) ∧ QYw1P_18 x14.1.1 ∧ x14.1.1.3 + x14.1.1.4 = a.2 + a.3) ∧ (0 = 0 ∧ a.2 + a.3 = x12 ∧ Value.slice a.4 a.5 a.6 = Value.slice a.4 a.5 a.6 ∧ (↑a.5 : Int) = x13 ∧ x14.2 =
0 ∧ True) ∧ ((True ∧ (0 = 0 ∧ 1 = 1 ∧ 1 = 1) ∧ True) ∧ (1 = 1 ∧ QYw1P_13 x14.1.1.2 x8.2) ∧ (2 = 2 ∧ x14.1.1.3 = a.2 ∧ x14.1.1.4 = a.3 ∧ True) ∧ QYw1P_1 x14.1.1.1 x8.1 x14.1.1.2
x8.2) ∧ True) ∧ (∀ (x15 : MnB), (0 ≤ x15.2 ∧ x15.2 ≤ (↑a.5 : Int)) ∧ QYw1P_18 x15.1.1 ∧ x15.1.1.3 + x15.1.1.4 = a.2 + a.3 → (x15.2 < (↑a.5 : Int) → (0 ≤ x15.2 ∧ x15.2 < (↑a.5 :
Int)) ∧ (∃ (x16 x17 : Nat), W_G_money_0 a = W_G_money_1 x16 x17 ∧ ∀ (x18 : Nat), x18 = x17 + Int.toNat x15.2 * 5 → ∃ (x19 : Int), FX Proofs.Tryz.prog x16 (Nat.add x18 0) (Value.int
.u8 x19) ∧ ∃ (x20 : Int), FX Proofs.Tryz.prog x16 (Nat.add x18 1) (Value.int .i64 x20) ∧ ∃ (x21 : Int), FX Proofs.Tryz.prog x16 (Nat.add x18 2) (Value.int .i32 x21) ∧ ∃ (x22 :
Int), FX Proofs.Tryz.prog x16 (Nat.add x18 3) (Value.int .u8 x22) ∧ ∃ (x23 : Option Addr) (x24 x25 : Nat), FX Proofs.Tryz.prog x16 (Nat.add x18 4) (Value.slice x23 x24 x25) ∧ (True
∧ isGx x15.1.1.1 x15.1.1.2 ∧ ((smQ x15.1.1.3 ∧ smQ x15.1.1.4) ∧ smQ (Int.ofNat 0) ∧ smQ (Int.ofNat 0)) ∧ QYw1P_19 x19 x21 x22 ∧ twoX x23 x24 x25) ∧ (QYw1P_24 x19 x20 x21 x22 x23
x24 x25 ∧ (True ∧ (0 = 0 ∧ 1 = 1 ∧ 1 = 1) ∧ True) ∧ (1 = 1 ∧ QYw1P_15 x15.1.1.2) ∧ QYw1P_22 x15.1.1 ∧ QYw1P_2 x15.1.1) ∧ (∀ (x26 : MvB), QYw1P_23 x15.1.1 x19 x20 x21 x26.1 → TL1
x15.1.1.3 x15.1.1.4 x26.1 x15.1.1.1 a x15.2) ∧ (∀ (x42 : TnB), QYw1P_21 x42.1 x19 x15.1.1 x20 x21 → TL1 x15.1.1.3 x15.1.1.4 x15.1.1.2 x15.1.1.1 a x15.2) ∧ (∀ (x57 : BgM), begQ
(DoA.mk (StA.mk (OuA.mk (0 : Int) (0 : Int) (0 : Int) (0 : Int) (0 : Int) (0 : Int) (0 : Int)) (OuA.mk (0 : Int) (0 : Int) (0 : Int) (0 : Int) (0 : Int) (0 : Int) (0 : Int))
(OuA.mk (0 : Int) (0 : Int) (0 : Int) (0 : Int) (0 : Int) (0 : Int) (0 : Int)) x15.1.1.1 x15.1.1.2 x15.1.1.3 x15.1.1.4) x19 x20 x21 x22 x23 x24 x25) (BgB.mk x57.1 x57.2 x57.3) ∧
x57.4 = x15.1.1.3 - x57.3.1 ∧ x57.5 = x15.1.1.4 - x57.3.2 → TL2 x57.3.1 x57.3.2 x57.4 x57.5 x15.1.1.2 x57.2 x15.1.1.1 x57.1 a x15.2) ∧ True)) ∧ QYw1P_28 x15.2 a.5) ∧ (∀ (x71 :
MnB), (0 ≤ x71.2 ∧ x71.2 ≤ (↑a.5 : Int)) ∧ (QYw1P_18 x71.1.1 ∧ QYw1P_18 x71.1.2) ∧ x71.1.1.3 + x71.1.1.4 + (x71.1.2.3 + x71.1.2.4) = a.2 + a.3 → (x71.2 < (↑a.5 : Int) → (0 ≤ x71.2
∧ x71.2 < (↑a.5 : Int)) ∧ (∃ (x72 x73 : Nat), W_G_money_0 a = W_G_money_1 x72 x73 ∧ ∀ (x74 : Nat), x74 = x73 + Int.toNat x71.2 * 5 → ∃ (x75 : Int), FX Proofs.Tryz.prog x72 (Nat.add
x74 0) (Value.int .u8 x75) ∧ ∃ (x76 : Int), FX Proofs.Tryz.prog x72 (Nat.add x74 1) (Value.int .i64 x76) ∧ ∃ (x77 : Int), FX Proofs.Tryz.prog x72 (Nat.add x74 2) (Value.int .i32
x77) ∧ ∃ (x78 : Int), FX Proofs.Tryz.prog x72 (Nat.add x74 3) (Value.int .u8 x78) ∧ ∃ (x79 : Option Addr) (x80 x81 : Nat), FX Proofs.Tryz.prog x72 (Nat.add x74 4) (Value.slice x79
x80 x81) ∧ (True ∧ isGx x71.1.2.1 x71.1.2.2 ∧ ((smQ x71.1.2.3 ∧ smQ x71.1.2.4) ∧ smQ x71.1.1.3 ∧ smQ x71.1.1.4) ∧ QYw1P_19 x75 x77 x78 ∧ twoX x79 x80 x81) ∧ (QYw1P_24 x75 x76 x77
x78 x79 x80 x81 ∧ (True ∧ (0 = 0 ∧ 2 = 2 ∧ 2 = 2) ∧ True) ∧ (2 = 2 ∧ QYw1P_4 x71.1.1.2 x71.1.2.2) ∧ QYw1P_22 x71.1.1 ∧ QYw1P_22 x71.1.2 ∧ (True ∧ True) ∧ (True ∧ True) ∧ (True ∧
True) ∧ (True ∧ True) ∧ QYw1P_2 x71.1.2) ∧ (∀ (x82 : MvB), QYw1P_23 x71.1.2 x75 x76 x77 x82.1 → TL2 x71.1.2.3 x71.1.2.4 x71.1.1.3 x71.1.1.4 x71.1.1.2 x82.1 x71.1.1.1 x71.1.2.1 a
x71.2) ∧ (∀ (x98 : TnB), QYw1P_21 x98.1 x75 x71.1.2 x76 x77 → TL2 x71.1.2.3 x71.1.2.4 x71.1.1.3 x71.1.1.4 x71.1.1.2 x71.1.2.2 x71.1.1.1 x71.1.2.1 a x71.2) ∧ (∀ (x113 : BgM), begQ
(DoA.mk (StA.mk (OuA.mk x71.1.1.2.4 x71.1.1.2.5 x71.1.1.2.6 x71.1.1.2.7 x71.1.1.2.8 x71.1.1.3 x71.1.1.4) (OuA.mk (0 : Int) (0 : Int) (0 : Int) (0 : Int) (0 : Int) (0 : Int) (0 :
Int)) (OuA.mk (0 : Int) (0 : Int) (0 : Int) (0 : Int) (0 : Int) (0 : Int) (0 : Int)) x71.1.2.1 x71.1.2.2 x71.1.2.3 x71.1.2.4) x75 x76 x77 x78 x79 x80 x81) (BgB.mk x113.1 x113.2
x113.3) ∧ x113.4 = x71.1.2.3 - x113.3.1 ∧ x113.5 = x71.1.2.4 - x113.3.2 → TL3 x113.3.1 x113.3.2 x71.1.1.3 x71.1.1.4 x113.4 x113.5 x71.1.1.2 x71.1.2.2 x113.2 x71.1.1.1 x71.1.2.1
x113.1 a x71.2) ∧ (∀ (x126 : EnM), endQ (DoA.mk (StA.mk (OuA.mk x71.1.1.2.4 x71.1.1.2.5 x71.1.1.2.6 x71.1.1.2.7 x71.1.1.2.8 x71.1.1.3 x71.1.1.4) (OuA.mk (0 : Int) (0 : Int) (0 :
Int) (0 : Int) (0 : Int) (0 : Int) (0 : Int)) (OuA.mk (0 : Int) (0 : Int) (0 : Int) (0 : Int) (0 : Int) (0 : Int) (0 : Int)) x71.1.2.1 x71.1.2.2 x71.1.2.3 x71.1.2.4) x75 x76 x77
x78 x79 x80 x81) x126.1 ∧ x126.2 = x71.1.1.3 + x126.1.1 ∧ x126.3 = x71.1.1.4 + x126.1.2 → TL1 x126.2 x126.3 x71.1.1.2 x71.1.1.1 a x71.2) ∧ True)) ∧ QYw1P_28 x71.2 a.5) ∧ (∀ (x140 :
MnB), (0 ≤ x140.2 ∧ x140.2 ≤ (↑a.5 : Int)) ∧ (QYw1P_18 x140.1.1 ∧ QYw1P_18 x140.1.2 ∧ QYw1P_18 x140.1.3) ∧ x140.1.1.3 + x140.1.1.4 + (x140.1.2.3 + x140.1.2.4) + (x140.1.3.3 +
x140.1.3.4) = a.2 + a.3 → (x140.2 < (↑a.5 : Int) → (0 ≤ x140.2 ∧ x140.2 < (↑a.5 : Int)) ∧ (∃ (x141 x142 : Nat), W_G_money_0 a = W_G_money_1 x141 x142 ∧ ∀ (x143 : Nat), x143 = x142
+ Int.toNat x140.2 * 5 → ∃ (x144 : Int), FX Proofs.Tryz.prog x141 (Nat.add x143 0) (Value.int .u8 x144) ∧ ∃ (x145 : Int), FX Proofs.Tryz.prog x141 (Nat.add x143 1) (Value.int .i64
x145) ∧ ∃ (x146 : Int), FX Proofs.Tryz.prog x141 (Nat.add x143 2) (Value.int .i32 x146) ∧ ∃ (x147 : Int), FX Proofs.Tryz.prog x141 (Nat.add x143 3) (Value.int .u8 x147) ∧ ∃ (x148 :
Option Addr) (x149 x150 : Nat), FX Proofs.Tryz.prog x141 (Nat.add x143 4) (Value.slice x148 x149 x150) ∧ (True ∧ isGx x140.1.3.1 x140.1.3.2 ∧ ((smQ x140.1.3.3 ∧ smQ x140.1.3.4) ∧
smQ x140.1.2.3 ∧ smQ x140.1.2.4) ∧ QYw1P_19 x144 x146 x147 ∧ twoX x148 x149 x150) ∧ (QYw1P_24 x144 x145 x146 x147 x148 x149 x150 ∧ (True ∧ (0 = 0 ∧ 3 = 3 ∧ 3 = 3) ∧ True) ∧ (3 = 3
∧ QYw1P_16 x140.1.1.2 x140.1.2.2 x140.1.3.2) ∧ QYw1P_22 x140.1.1 ∧ QYw1P_22 x140.1.2 ∧ QYw1P_22 x140.1.3 ∧ QYw1P_29 x140.1.3) ∧ (∀ (x151 : MvB), QYw1P_23 x140.1.3 x144 x145 x146
x151.1 → TL3 x140.1.3.3 x140.1.3.4 x140.1.1.3 x140.1.1.4 x140.1.2.3 x140.1.2.4 x140.1.1.2 x140.1.2.2 x151.1 x140.1.1.1 x140.1.2.1 x140.1.3.1 a x140.2) ∧ (∀ (x167 : TnB), QYw1P_21
x167.1 x144 x140.1.3 x145 x146 → TL3 x140.1.3.3 x140.1.3.4 x140.1.1.3 x140.1.1.4 x140.1.2.3 x140.1.2.4 x140.1.1.2 x140.1.2.2 x140.1.3.2 x140.1.1.1 x140.1.2.1 x140.1.3.1 a x140.2) ∧
(∀ (x182 : BgM), begQ (DoA.mk (StA.mk (OuA.mk x140.1.1.2.4 x140.1.1.2.5 x140.1.1.2.6 x140.1.1.2.7 x140.1.1.2.8 x140.1.1.3 x140.1.1.4) (OuA.mk x140.1.2.2.4 x140.1.2.2.5 x140.1.2.2.6
x140.1.2.2.7 x140.1.2.2.8 x140.1.2.3 x140.1.2.4) (OuA.mk (0 : Int) (0 : Int) (0 : Int) (0 : Int) (0 : Int) (0 : Int) (0 : Int)) x140.1.3.1 x140.1.3.2 x140.1.3.3 x140.1.3.4) x144
x145 x146 x147 x148 x149 x150) (BgB.mk x182.1 x182.2 x182.3) ∧ x182.4 = x140.1.3.3 - x182.3.1 ∧ x182.5 = x140.1.3.4 - x182.3.2 → TL4 x182.3.1 x182.3.2 x140.1.1.3 x140.1.1.4
x140.1.2.3 x140.1.2.4 x182.4 x182.5 x140.1.1.2 x140.1.2.2 x140.1.3.2 x182.2 x140.1.1.1 x140.1.2.1 x140.1.3.1 x182.1 a x140.2) ∧ (∀ (x195 : EnM), endQ (DoA.mk (StA.mk (OuA.mk
x140.1.1.2.4 x140.1.1.2.5 x140.1.1.2.6 x140.1.1.2.7 x140.1.1.2.8 x140.1.1.3 x140.1.1.4) (OuA.mk x140.1.2.2.4 x140.1.2.2.5 x140.1.2.2.6 x140.1.2.2.7 x140.1.2.2.8 x140.1.2.3
x140.1.2.4) (OuA.mk (0 : Int) (0 : Int) (0 : Int) (0 : Int) (0 : Int) (0 : Int) (0 : Int)) x140.1.3.1 x140.1.3.2 x140.1.3.3 x140.1.3.4) x144 x145 x146 x147 x148 x149 x150) x195.1 ∧
x195.2 = x140.1.2.3 + x195.1.1 ∧ x195.3 = x140.1.2.4 + x195.1.2 → TL2 x195.2 x195.3 x140.1.1.3 x140.1.1.4 x140.1.1.2 x140.1.2.2 x140.1.1.1 x140.1.2.1 a x140.2) ∧ True)) ∧ QYw1P_28
x140.2 a.5) ∧ (∀ (x209 : MnB), (0 ≤ x209.2 ∧ x209.2 ≤ (↑a.5 : Int)) ∧ (QYw1P_18 x209.1.1 ∧ QYw1P_18 x209.1.2 ∧ QYw1P_18 x209.1.3 ∧ QYw1P_18 x209.1.4) ∧ x209.1.1.3 + x209.1.1.4 +
(x209.1.2.3 + x209.1.2.4) + (x209.1.3.3 + x209.1.3.4) + (x209.1.4.3 + x209.1.4.4) = a.2 + a.3 → (x209.2 < (↑a.5 : Int) → (0 ≤ x209.2 ∧ x209.2 < (↑a.5 : Int)) ∧ (∃ (x210 x211 :
Nat), W_G_money_0 a = W_G_money_1 x210 x211 ∧ ∀ (x212 : Nat), x212 = x211 + Int.toNat x209.2 * 5 → ∃ (x213 : Int), FX Proofs.Tryz.prog x210 (Nat.add x212 0) (Value.int .u8 x213) ∧
∃ (x214 : Int), FX Proofs.Tryz.prog x210 (Nat.add x212 1) (Value.int .i64 x214) ∧ ∃ (x215 : Int), FX Proofs.Tryz.prog x210 (Nat.add x212 2) (Value.int .i32 x215) ∧ ∃ (x216 : Int),
FX Proofs.Tryz.prog x210 (Nat.add x212 3) (Value.int .u8 x216) ∧ ∃ (x217 : Option Addr) (x218 x219 : Nat), FX Proofs.Tryz.prog x210 (Nat.add x212 4) (Value.slice x217 x218 x219) ∧
(True ∧ isGx x209.1.4.1 x209.1.4.2 ∧ ((smQ x209.1.4.3 ∧ smQ x209.1.4.4) ∧ smQ x209.1.3.3 ∧ smQ x209.1.3.4) ∧ QYw1P_19 x213 x215 x216 ∧ twoX x217 x218 x219) ∧ (QYw1P_24 x213 x214
x215 x216 x217 x218 x219 ∧ (True ∧ (0 = 0 ∧ 4 = 4 ∧ 4 = 4) ∧ True) ∧ (4 = 4 ∧ 0 = 0 ∧ (0 = 0 ∧ 2 = 2 ∧ 2 = 2) ∧ (0 = 0 ∧ 2 = 2 ∧ 2 = 2) ∧ (0 = 0 ∧ 2 = 2 ∧ 2 = 2) ∧ Z1 x209.1.1.2.4
∧ Z1 x209.1.1.2.5 ∧ Z1 x209.1.1.2.6 ∧ Z1 x209.1.1.2.7 ∧ Z1 x209.1.1.2.8 ∧ (0 = 0 ∧ 2 = 2 ∧ 2 = 2) ∧ QYw1P_16 x209.1.2.2 x209.1.3.2 x209.1.4.2) ∧ QYw1P_22 x209.1.1 ∧ QYw1P_22
x209.1.2 ∧ QYw1P_22 x209.1.3 ∧ QYw1P_22 x209.1.4 ∧ (True ∧ True) ∧ (True ∧ True) ∧ (True ∧ True) ∧ (True ∧ True) ∧ QYw1P_29 x209.1.4) ∧ (∀ (x220 : MvB), QYw1P_23 x209.1.4 x213 x214
x215 x220.1 → TL4 x209.1.4.3 x209.1.4.4 x209.1.1.3 x209.1.1.4 x209.1.2.3 x209.1.2.4 x209.1.3.3 x209.1.3.4 x209.1.1.2 x209.1.2.2 x209.1.3.2 x220.1 x209.1.1.1 x209.1.2.1 x209.1.3.1
x209.1.4.1 a x209.2) ∧ (∀ (x236 : TnB), QYw1P_21 x236.1 x213 x209.1.4 x214 x215 → TL4 x209.1.4.3 x209.1.4.4 x209.1.1.3 x209.1.1.4 x209.1.2.3 x209.1.2.4 x209.1.3.3 x209.1.3.4
x209.1.1.2 x209.1.2.2 x209.1.3.2 x209.1.4.2 x209.1.1.1 x209.1.2.1 x209.1.3.1 x209.1.4.1 a x209.2) ∧ (∀ (x251 : EnM), endQ (DoA.mk (StA.mk (OuA.mk x209.1.1.2.4 x209.1.1.2.5
x209.1.1.2.6 x209.1.1.2.7 x209.1.1.2.8 x209.1.1.3 x209.1.1.4) (OuA.mk x209.1.2.2.4 x209.1.2.2.5 x209.1.2.2.6 x209.1.2.2.7 x209.1.2.2.8 x209.1.2.3 x209.1.2.4) (OuA.mk x209.1.3.2.4
x209.1.3.2.5 x209.1.3.2.6 x209.1.3.2.7 x209.1.3.2.8 x209.1.3.3 x209.1.3.4) x209.1.4.1 x209.1.4.2 x209.1.4.3 x209.1.4.4) x213 x214 x215 x216 x217 x218 x219) x251.1 ∧ x251.2 =
x209.1.3.3 + x251.1.1 ∧ x251.3 = x209.1.3.4 + x251.1.2 → TL3 x251.2 x251.3 x209.1.1.3 x209.1.1.4 x209.1.2.3 x209.1.2.4 x209.1.1.2 x209.1.2.2 x209.1.3.2 x209.1.1.1 x209.1.2.1
x209.1.3.1 a x209.2) ∧ True)) ∧ QYw1P_28 x209.2 a.5) ∧ True) ∧ True) ∧ True) ∧ True) := by kernel_rfl
set_option maxHeartbeats 4000000 in
theorem tl1 (x1 : Int) (y1 : Int) (p1 : PoA) (g1 : RuA) (a : MnA) (i : Int) (i1 : 0 ≤ i) (hlt : i < a.l) (hla : (a.l : Int) ≤ 9223372036854775807) (hx : 0 ≤ a.x ∧ a.x < 65536) (hy : 0 ≤ a.y ∧ a.y < 65536) (G1 : isGx g1 p1) (X1 : smQ x1) (Y1 : smQ y1) (tot : (x1 + y1) = a.x + a.y) : TL1 x1 y1 p1 g1 a i := by
  obtain ⟨k1, j1, h1⟩ := G1
  obtain ⟨v11, v12, v13, v14, v15, v16, v17, v18, v19, v110, v111⟩ := flG_of h1
  obtain ⟨s11, s12⟩ := X1
  obtain ⟨s13, s14⟩ := Y1
  have hok : allOK 1 ⟨⟨g1, p1, x1, y1⟩, ⟨g1, p1, x1, y1⟩, ⟨g1, p1, x1, y1⟩, ⟨g1, p1, x1, y1⟩⟩ := ⟨⟨k1, j1, h1⟩, smI s11 s12, smI s13 s14⟩
  have f12 := fl11
  have f13 := fl00
  have gl0 : FlatL cells0 := flatAll (by kernel_rfl)
  have gl1 : FlatL cells1 := flatAll (by kernel_rfl)
  have gl2 : FlatL cells2 := flatAll (by kernel_rfl)
  have gl4 : FlatL cells4 := flatAll (by kernel_rfl)
  have gl5 : FlatL cells5 := flatAll (by kernel_rfl)
  have gl6 : FlatL cells6 := flatAll (by kernel_rfl)
  have gl8 : FlatL cells8 := flatAll (by kernel_rfl)
  have gl9 : FlatL cells9 := flatAll (by kernel_rfl)
  have gl10 : FlatL cells10 := flatAll (by kernel_rfl)
  unfold TL1
  (repeat (refine And.intro ?_ ?_;focus((repeat' first|with_reducible(first|apply And.intro|assumption|rfl)|exact trivial|exact rfl|decide); done)))
  refine ⟨⟨trivial, ⟨⟨smI s11 s12, smI s13 s14⟩, trivial⟩⟩, by (repeat' first|with_reducible(first|apply And.intro|assumption|rfl)|exact trivial|exact rfl|decide), fun _ _ => ?_, trivial⟩
  (repeat (refine And.intro ?_ ?_;focus((repeat' first|with_reducible(first|apply And.intro|assumption|rfl)|exact trivial|exact rfl|decide); done)))
  refine ⟨⟨trivial, hok⟩, by (repeat' first|with_reducible(first|apply And.intro|assumption|rfl)|exact trivial|exact rfl|decide), fun q hq => ?_, trivial⟩
  obtain ⟨⟨p1_, p2_⟩, p3_⟩ := paid0 hok hq
  have p3_ : q.x + q.y = (x1 + y1) := p3_
  (repeat (refine And.intro ?_ ?_;focus((repeat' first|with_reducible(first|apply And.intro|assumption|rfl)|exact trivial|exact rfl|decide); done)))
  intro y1_ e1
  (repeat (refine And.intro ?_ ?_;focus((repeat' first|with_reducible(first|apply And.intro|assumption|rfl)|exact trivial|exact rfl|decide); done)))
  intro y2_ e2
  have e1 : y1_ = IntKind.wrap .i64 (0 + (x1)) := e1
  have e2 : y2_ = IntKind.wrap .i64 (y1_ + (y1)) := e2
  rw [wr64 (by omega)] at e1
  rw [wr64 (by omega)] at e2
  refine ⟨fun hne => absurd (by omega) hne, fun _ => ?_⟩
  (repeat (refine And.intro ?_ ?_;focus((repeat' first|with_reducible(first|apply And.intro|assumption|rfl)|exact trivial|exact rfl|decide); done)))
  intro y3_ e3
  (repeat (refine And.intro ?_ ?_;focus((repeat' first|with_reducible(first|apply And.intro|assumption|rfl)|exact trivial|exact rfl|decide); done)))
  intro y4_ e4
  rw [wr64 (by omega)] at e3
  rw [wr64 (by omega)] at e4
  refine ⟨fun hne => absurd (by omega) hne, fun _ => ?_⟩
  (repeat (refine And.intro ?_ ?_;focus((repeat' first|with_reducible(first|apply And.intro|assumption|rfl)|exact trivial|exact rfl|decide); done)))
  intro y5_ e5
  have e5 : y5_ = min (min (min (x1) (y1)) q.x) q.y := e5
  refine ⟨fun hng => absurd hng (by omega), fun _ => ?_⟩
  (repeat (refine And.intro ?_ ?_;focus((repeat' first|with_reducible(first|apply And.intro|assumption|rfl)|exact trivial|exact rfl|decide); done)))
  intro y6_ e6
  rw [wr64 (by omega)] at e6
  have e6 := e6.symm
  refine ⟨⟨⟨⟨g1, p1, x1, y1⟩, ⟨g1, p1, x1, y1⟩, ⟨g1, p1, x1, y1⟩, ⟨g1, p1, x1, y1⟩⟩, i + 1⟩, ⟨⟨by show 0 ≤ i + 1; omega, by show i + 1 ≤ (a.l : Int); omega⟩, hok, by show (x1 + y1) = a.x + a.y; omega⟩, by show ((a.l : Int) - (i + 1)).toNat < ((a.l : Int) - i).toNat; omega, ?_⟩
  (repeat' first|with_reducible(first|apply And.intro|assumption|rfl)|exact trivial|exact rfl|decide)
set_option maxHeartbeats 4000000 in
theorem tl2 (x2 : Int) (y2 : Int) (x1 : Int) (y1 : Int) (p1 : PoA) (p2 : PoA) (g1 : RuA) (g2 : RuA) (a : MnA) (i : Int) (i1 : 0 ≤ i) (hlt : i < a.l) (hla : (a.l : Int) ≤ 9223372036854775807) (hx : 0 ≤ a.x ∧ a.x < 65536) (hy : 0 ≤ a.y ∧ a.y < 65536) (G1 : isGx g1 p1) (X1 : smQ x1) (Y1 : smQ y1) (G2 : isGx g2 p2) (X2 : smQ x2) (Y2 : smQ y2) (tot : (x1 + y1) + (x2 + y2) = a.x + a.y) : TL2 x2 y2 x1 y1 p1 p2 g1 g2 a i := by
  obtain ⟨k1, j1, h1⟩ := G1
  obtain ⟨v11, v12, v13, v14, v15, v16, v17, v18, v19, v110, v111⟩ := flG_of h1
  obtain ⟨s11, s12⟩ := X1
  obtain ⟨s13, s14⟩ := Y1
  obtain ⟨k2, j2, h2⟩ := G2
  obtain ⟨v21, v22, v23, v24, v25, v26, v27, v28, v29, v210, v211⟩ := flG_of h2
  obtain ⟨s21, s22⟩ := X2
  obtain ⟨s23, s24⟩ := Y2
  have hok : allOK 2 ⟨⟨g1, p1, x1, y1⟩, ⟨g2, p2, x2, y2⟩, ⟨g1, p1, x1, y1⟩, ⟨g1, p1, x1, y1⟩⟩ := ⟨⟨⟨k1, j1, h1⟩, smI s11 s12, smI s13 s14⟩, ⟨⟨k2, j2, h2⟩, smI s21 s22, smI s23 s24⟩⟩
  have f12 := fl11
  have f13 := fl00
  have gl0 : FlatL cells0 := flatAll (by kernel_rfl)
  have gl1 : FlatL cells1 := flatAll (by kernel_rfl)
  have gl2 : FlatL cells2 := flatAll (by kernel_rfl)
  have gl4 : FlatL cells4 := flatAll (by kernel_rfl)
  have gl5 : FlatL cells5 := flatAll (by kernel_rfl)
  have gl6 : FlatL cells6 := flatAll (by kernel_rfl)
  have gl8 : FlatL cells8 := flatAll (by kernel_rfl)
  have gl9 : FlatL cells9 := flatAll (by kernel_rfl)
  have gl10 : FlatL cells10 := flatAll (by kernel_rfl)
  unfold TL2
  (repeat (refine And.intro ?_ ?_;focus((repeat' first|with_reducible(first|apply And.intro|assumption|rfl)|exact trivial|exact rfl|decide); done)))
  refine ⟨⟨trivial, ⟨⟨smI s21 s22, smI s23 s24⟩, ⟨smI s11 s12, smI s13 s14⟩⟩⟩, by (repeat' first|with_reducible(first|apply And.intro|assumption|rfl)|exact trivial|exact rfl|decide), fun _ _ => ?_, trivial⟩
  (repeat (refine And.intro ?_ ?_;focus((repeat' first|with_reducible(first|apply And.intro|assumption|rfl)|exact trivial|exact rfl|decide); done)))
  refine ⟨⟨trivial, hok⟩, by (repeat' first|with_reducible(first|apply And.intro|assumption|rfl)|exact trivial|exact rfl|decide), fun q hq => ?_, trivial⟩
  obtain ⟨⟨p1_, p2_⟩, p3_⟩ := paid1 hok hq
  have p3_ : q.x + q.y = (x1 + y1) + (x2 + y2) := p3_
  (repeat (refine And.intro ?_ ?_;focus((repeat' first|with_reducible(first|apply And.intro|assumption|rfl)|exact trivial|exact rfl|decide); done)))
  intro y1_ e1
  (repeat (refine And.intro ?_ ?_;focus((repeat' first|with_reducible(first|apply And.intro|assumption|rfl)|exact trivial|exact rfl|decide); done)))
  intro y2_ e2
  have e1 : y1_ = IntKind.wrap .i64 (0 + (x1 + x2)) := e1
  have e2 : y2_ = IntKind.wrap .i64 (y1_ + (y1 + y2)) := e2
  rw [wr64 (by omega)] at e1
  rw [wr64 (by omega)] at e2
  refine ⟨fun hne => absurd (by omega) hne, fun _ => ?_⟩
  (repeat (refine And.intro ?_ ?_;focus((repeat' first|with_reducible(first|apply And.intro|assumption|rfl)|exact trivial|exact rfl|decide); done)))
  intro y3_ e3
  (repeat (refine And.intro ?_ ?_;focus((repeat' first|with_reducible(first|apply And.intro|assumption|rfl)|exact trivial|exact rfl|decide); done)))
  intro y4_ e4
  rw [wr64 (by omega)] at e3
  rw [wr64 (by omega)] at e4
  refine ⟨fun hne => absurd (by omega) hne, fun _ => ?_⟩
  (repeat (refine And.intro ?_ ?_;focus((repeat' first|with_reducible(first|apply And.intro|assumption|rfl)|exact trivial|exact rfl|decide); done)))
  intro y5_ e5
  have e5 : y5_ = min (min (min (x1 + x2) (y1 + y2)) q.x) q.y := e5
  refine ⟨fun hng => absurd hng (by omega), fun _ => ?_⟩
  (repeat (refine And.intro ?_ ?_;focus((repeat' first|with_reducible(first|apply And.intro|assumption|rfl)|exact trivial|exact rfl|decide); done)))
  intro y6_ e6
  rw [wr64 (by omega)] at e6
  have e6 := e6.symm
  refine ⟨⟨⟨⟨g1, p1, x1, y1⟩, ⟨g2, p2, x2, y2⟩, ⟨g1, p1, x1, y1⟩, ⟨g1, p1, x1, y1⟩⟩, i + 1⟩, ⟨⟨by show 0 ≤ i + 1; omega, by show i + 1 ≤ (a.l : Int); omega⟩, hok, by show (x1 + y1) + (x2 + y2) = a.x + a.y; omega⟩, by show ((a.l : Int) - (i + 1)).toNat < ((a.l : Int) - i).toNat; omega, ?_⟩
  (repeat' first|with_reducible(first|apply And.intro|assumption|rfl)|exact trivial|exact rfl|decide)
set_option maxHeartbeats 4000000 in
theorem tl3 (x3 : Int) (y3 : Int) (x1 : Int) (y1 : Int) (x2 : Int) (y2 : Int) (p1 : PoA) (p2 : PoA) (p3 : PoA) (g1 : RuA) (g2 : RuA) (g3 : RuA) (a : MnA) (i : Int) (i1 : 0 ≤ i) (hlt : i < a.l) (hla : (a.l : Int) ≤ 9223372036854775807) (hx : 0 ≤ a.x ∧ a.x < 65536) (hy : 0 ≤ a.y ∧ a.y < 65536) (G1 : isGx g1 p1) (X1 : smQ x1) (Y1 : smQ y1) (G2 : isGx g2 p2) (X2 : smQ x2) (Y2 : smQ y2) (G3 : isGx g3 p3) (X3 : smQ x3) (Y3 : smQ y3) (tot : (x1 + y1) + (x2 + y2) + (x3 + y3) = a.x + a.y) : TL3 x3 y3 x1 y1 x2 y2 p1 p2 p3 g1 g2 g3 a i := by
  obtain ⟨k1, j1, h1⟩ := G1
  obtain ⟨v11, v12, v13, v14, v15, v16, v17, v18, v19, v110, v111⟩ := flG_of h1
  obtain ⟨s11, s12⟩ := X1
  obtain ⟨s13, s14⟩ := Y1
  obtain ⟨k2, j2, h2⟩ := G2
  obtain ⟨v21, v22, v23, v24, v25, v26, v27, v28, v29, v210, v211⟩ := flG_of h2
  obtain ⟨s21, s22⟩ := X2
  obtain ⟨s23, s24⟩ := Y2
  obtain ⟨k3, j3, h3⟩ := G3
  obtain ⟨v31, v32, v33, v34, v35, v36, v37, v38, v39, v310, v311⟩ := flG_of h3
  obtain ⟨s31, s32⟩ := X3
  obtain ⟨s33, s34⟩ := Y3
  have hok : allOK 3 ⟨⟨g1, p1, x1, y1⟩, ⟨g2, p2, x2, y2⟩, ⟨g3, p3, x3, y3⟩, ⟨g1, p1, x1, y1⟩⟩ := ⟨⟨⟨k1, j1, h1⟩, smI s11 s12, smI s13 s14⟩, ⟨⟨k2, j2, h2⟩, smI s21 s22, smI s23 s24⟩, ⟨⟨k3, j3, h3⟩, smI s31 s32, smI s33 s34⟩⟩
  have f12 := fl11
  have f13 := fl00
  have gl0 : FlatL cells0 := flatAll (by kernel_rfl)
  have gl1 : FlatL cells1 := flatAll (by kernel_rfl)
  have gl2 : FlatL cells2 := flatAll (by kernel_rfl)
  have gl4 : FlatL cells4 := flatAll (by kernel_rfl)
  have gl5 : FlatL cells5 := flatAll (by kernel_rfl)
  have gl6 : FlatL cells6 := flatAll (by kernel_rfl)
  have gl8 : FlatL cells8 := flatAll (by kernel_rfl)
  have gl9 : FlatL cells9 := flatAll (by kernel_rfl)
  have gl10 : FlatL cells10 := flatAll (by kernel_rfl)
  unfold TL3
  (repeat (refine And.intro ?_ ?_;focus((repeat' first|with_reducible(first|apply And.intro|assumption|rfl)|exact trivial|exact rfl|decide); done)))
  refine ⟨⟨trivial, ⟨⟨smI s31 s32, smI s33 s34⟩, ⟨⟨smI s11 s12, smI s13 s14⟩, ⟨smI s21 s22, smI s23 s24⟩⟩⟩⟩, by (repeat' first|with_reducible(first|apply And.intro|assumption|rfl)|exact trivial|exact rfl|decide), fun _ _ => ?_, trivial⟩
  (repeat (refine And.intro ?_ ?_;focus((repeat' first|with_reducible(first|apply And.intro|assumption|rfl)|exact trivial|exact rfl|decide); done)))
  refine ⟨⟨trivial, hok⟩, by (repeat' first|with_reducible(first|apply And.intro|assumption|rfl)|exact trivial|exact rfl|decide), fun q hq => ?_, trivial⟩
  obtain ⟨⟨p1_, p2_⟩, p3_⟩ := paid2 hok hq
  have p3_ : q.x + q.y = (x1 + y1) + (x2 + y2) + (x3 + y3) := p3_
  (repeat (refine And.intro ?_ ?_;focus((repeat' first|with_reducible(first|apply And.intro|assumption|rfl)|exact trivial|exact rfl|decide); done)))
  intro y1_ e1
  (repeat (refine And.intro ?_ ?_;focus((repeat' first|with_reducible(first|apply And.intro|assumption|rfl)|exact trivial|exact rfl|decide); done)))
  intro y2_ e2
  have e1 : y1_ = IntKind.wrap .i64 (0 + (x1 + x2 + x3)) := e1
  have e2 : y2_ = IntKind.wrap .i64 (y1_ + (y1 + y2 + y3)) := e2
  rw [wr64 (by omega)] at e1
  rw [wr64 (by omega)] at e2
  refine ⟨fun hne => absurd (by omega) hne, fun _ => ?_⟩
  (repeat (refine And.intro ?_ ?_;focus((repeat' first|with_reducible(first|apply And.intro|assumption|rfl)|exact trivial|exact rfl|decide); done)))
  intro y3_ e3
  (repeat (refine And.intro ?_ ?_;focus((repeat' first|with_reducible(first|apply And.intro|assumption|rfl)|exact trivial|exact rfl|decide); done)))
  intro y4_ e4
  rw [wr64 (by omega)] at e3
  rw [wr64 (by omega)] at e4
  refine ⟨fun hne => absurd (by omega) hne, fun _ => ?_⟩
  (repeat (refine And.intro ?_ ?_;focus((repeat' first|with_reducible(first|apply And.intro|assumption|rfl)|exact trivial|exact rfl|decide); done)))
  intro y5_ e5
  have e5 : y5_ = min (min (min (x1 + x2 + x3) (y1 + y2 + y3)) q.x) q.y := e5
  refine ⟨fun hng => absurd hng (by omega), fun _ => ?_⟩
  (repeat (refine And.intro ?_ ?_;focus((repeat' first|with_reducible(first|apply And.intro|assumption|rfl)|exact trivial|exact rfl|decide); done)))
  intro y6_ e6
  rw [wr64 (by omega)] at e6
  have e6 := e6.symm
  refine ⟨⟨⟨⟨g1, p1, x1, y1⟩, ⟨g2, p2, x2, y2⟩, ⟨g3, p3, x3, y3⟩, ⟨g1, p1, x1, y1⟩⟩, i + 1⟩, ⟨⟨by show 0 ≤ i + 1; omega, by show i + 1 ≤ (a.l : Int); omega⟩, hok, by show (x1 + y1) + (x2 + y2) + (x3 + y3) = a.x + a.y; omega⟩, by show ((a.l : Int) - (i + 1)).toNat < ((a.l : Int) - i).toNat; omega, ?_⟩
  (repeat' first|with_reducible(first|apply And.intro|assumption|rfl)|exact trivial|exact rfl|decide)
set_option maxHeartbeats 4000000 in
theorem tl4 (x4 : Int) (y4 : Int) (x1 : Int) (y1 : Int) (x2 : Int) (y2 : Int) (x3 : Int) (y3 : Int) (p1 : PoA) (p2 : PoA) (p3 : PoA) (p4 : PoA) (g1 : RuA) (g2 : RuA) (g3 : RuA) (g4 : RuA) (a : MnA) (i : Int) (i1 : 0 ≤ i) (hlt : i < a.l) (hla : (a.l : Int) ≤ 9223372036854775807) (hx : 0 ≤ a.x ∧ a.x < 65536) (hy : 0 ≤ a.y ∧ a.y < 65536) (G1 : isGx g1 p1) (X1 : smQ x1) (Y1 : smQ y1) (G2 : isGx g2 p2) (X2 : smQ x2) (Y2 : smQ y2) (G3 : isGx g3 p3) (X3 : smQ x3) (Y3 : smQ y3) (G4 : isGx g4 p4) (X4 : smQ x4) (Y4 : smQ y4) (tot : (x1 + y1) + (x2 + y2) + (x3 + y3) + (x4 + y4) = a.x + a.y) : TL4 x4 y4 x1 y1 x2 y2 x3 y3 p1 p2 p3 p4 g1 g2 g3 g4 a i := by
  obtain ⟨k1, j1, h1⟩ := G1
  obtain ⟨v11, v12, v13, v14, v15, v16, v17, v18, v19, v110, v111⟩ := flG_of h1
  obtain ⟨s11, s12⟩ := X1
  obtain ⟨s13, s14⟩ := Y1
  obtain ⟨k2, j2, h2⟩ := G2
  obtain ⟨v21, v22, v23, v24, v25, v26, v27, v28, v29, v210, v211⟩ := flG_of h2
  obtain ⟨s21, s22⟩ := X2
  obtain ⟨s23, s24⟩ := Y2
  obtain ⟨k3, j3, h3⟩ := G3
  obtain ⟨v31, v32, v33, v34, v35, v36, v37, v38, v39, v310, v311⟩ := flG_of h3
  obtain ⟨s31, s32⟩ := X3
  obtain ⟨s33, s34⟩ := Y3
  obtain ⟨k4, j4, h4⟩ := G4
  obtain ⟨v41, v42, v43, v44, v45, v46, v47, v48, v49, v410, v411⟩ := flG_of h4
  obtain ⟨s41, s42⟩ := X4
  obtain ⟨s43, s44⟩ := Y4
  have hok : allOK 4 ⟨⟨g1, p1, x1, y1⟩, ⟨g2, p2, x2, y2⟩, ⟨g3, p3, x3, y3⟩, ⟨g4, p4, x4, y4⟩⟩ := ⟨⟨⟨k1, j1, h1⟩, smI s11 s12, smI s13 s14⟩, ⟨⟨k2, j2, h2⟩, smI s21 s22, smI s23 s24⟩, ⟨⟨k3, j3, h3⟩, smI s31 s32, smI s33 s34⟩, ⟨⟨k4, j4, h4⟩, smI s41 s42, smI s43 s44⟩⟩
  have f12 := fl11
  have f13 := fl00
  have gl0 : FlatL cells0 := flatAll (by kernel_rfl)
  have gl1 : FlatL cells1 := flatAll (by kernel_rfl)
  have gl2 : FlatL cells2 := flatAll (by kernel_rfl)
  have gl4 : FlatL cells4 := flatAll (by kernel_rfl)
  have gl5 : FlatL cells5 := flatAll (by kernel_rfl)
  have gl6 : FlatL cells6 := flatAll (by kernel_rfl)
  have gl8 : FlatL cells8 := flatAll (by kernel_rfl)
  have gl9 : FlatL cells9 := flatAll (by kernel_rfl)
  have gl10 : FlatL cells10 := flatAll (by kernel_rfl)
  unfold TL4
  (repeat (refine And.intro ?_ ?_;focus((repeat' first|with_reducible(first|apply And.intro|assumption|rfl)|exact trivial|exact rfl|decide); done)))
  refine ⟨⟨trivial, ⟨⟨smI s41 s42, smI s43 s44⟩, ⟨⟨smI s11 s12, smI s13 s14⟩, ⟨smI s21 s22, smI s23 s24⟩, ⟨smI s31 s32, smI s33 s34⟩⟩⟩⟩, by (repeat' first|with_reducible(first|apply And.intro|assumption|rfl)|exact trivial|exact rfl|decide), fun _ _ => ?_, trivial⟩
  (repeat (refine And.intro ?_ ?_;focus((repeat' first|with_reducible(first|apply And.intro|assumption|rfl)|exact trivial|exact rfl|decide); done)))
  refine ⟨⟨trivial, hok⟩, by (repeat' first|with_reducible(first|apply And.intro|assumption|rfl)|exact trivial|exact rfl|decide), fun q hq => ?_, trivial⟩
  obtain ⟨⟨p1_, p2_⟩, p3_⟩ := paid3 hok hq
  have p3_ : q.x + q.y = (x1 + y1) + (x2 + y2) + (x3 + y3) + (x4 + y4) := p3_
  (repeat (refine And.intro ?_ ?_;focus((repeat' first|with_reducible(first|apply And.intro|assumption|rfl)|exact trivial|exact rfl|decide); done)))
  intro y1_ e1
  (repeat (refine And.intro ?_ ?_;focus((repeat' first|with_reducible(first|apply And.intro|assumption|rfl)|exact trivial|exact rfl|decide); done)))
  intro y2_ e2
  have e1 : y1_ = IntKind.wrap .i64 (0 + (x1 + x2 + x3 + x4)) := e1
  have e2 : y2_ = IntKind.wrap .i64 (y1_ + (y1 + y2 + y3 + y4)) := e2
  rw [wr64 (by omega)] at e1
  rw [wr64 (by omega)] at e2
  refine ⟨fun hne => absurd (by omega) hne, fun _ => ?_⟩
  (repeat (refine And.intro ?_ ?_;focus((repeat' first|with_reducible(first|apply And.intro|assumption|rfl)|exact trivial|exact rfl|decide); done)))
  intro y3_ e3
  (repeat (refine And.intro ?_ ?_;focus((repeat' first|with_reducible(first|apply And.intro|assumption|rfl)|exact trivial|exact rfl|decide); done)))
  intro y4_ e4
  rw [wr64 (by omega)] at e3
  rw [wr64 (by omega)] at e4
  refine ⟨fun hne => absurd (by omega) hne, fun _ => ?_⟩
  (repeat (refine And.intro ?_ ?_;focus((repeat' first|with_reducible(first|apply And.intro|assumption|rfl)|exact trivial|exact rfl|decide); done)))
  intro y5_ e5
  have e5 : y5_ = min (min (min (x1 + x2 + x3 + x4) (y1 + y2 + y3 + y4)) q.x) q.y := e5
  refine ⟨fun hng => absurd hng (by omega), fun _ => ?_⟩
  (repeat (refine And.intro ?_ ?_;focus((repeat' first|with_reducible(first|apply And.intro|assumption|rfl)|exact trivial|exact rfl|decide); done)))
  intro y6_ e6
  rw [wr64 (by omega)] at e6
  have e6 := e6.symm
  refine ⟨⟨⟨⟨g1, p1, x1, y1⟩, ⟨g2, p2, x2, y2⟩, ⟨g3, p3, x3, y3⟩, ⟨g4, p4, x4, y4⟩⟩, i + 1⟩, ⟨⟨by show 0 ≤ i + 1; omega, by show i + 1 ≤ (a.l : Int); omega⟩, hok, by show (x1 + y1) + (x2 + y2) + (x3 + y3) + (x4 + y4) = a.x + a.y; omega⟩, by show ((a.l : Int) - (i + 1)).toNat < ((a.l : Int) - i).toNat; omega, ?_⟩
  (repeat' first|with_reducible(first|apply And.intro|assumption|rfl)|exact trivial|exact rfl|decide)
set_option maxHeartbeats 8000000 in
theorem g_money (a : MnA) (hw : 0 ≤ a.w ∧ a.w < 256) (hx : 0 ≤ a.x ∧ a.x < 65536) (hy : 0 ≤ a.y ∧ a.y < 65536) (hacts : actsX a.v a.l) : GW (G_money a) := by
  have f12 := fl11
  have f13 := fl00
  have hla : (a.l : Int) ≤ 9223372036854775807 := by have := hacts.1; omega
  have gl0 : FlatL cells0 := flatAll (by kernel_rfl)
  have gl1 : FlatL cells1 := flatAll (by kernel_rfl)
  have gl2 : FlatL cells2 := flatAll (by kernel_rfl)
  have gl4 : FlatL cells4 := flatAll (by kernel_rfl)
  have gl5 : FlatL cells5 := flatAll (by kernel_rfl)
  have gl6 : FlatL cells6 := flatAll (by kernel_rfl)
  have gl8 : FlatL cells8 := flatAll (by kernel_rfl)
  have gl9 : FlatL cells9 := flatAll (by kernel_rfl)
  have gl10 : FlatL cells10 := flatAll (by kernel_rfl)
  refine ⟨?_⟩
  rw [vc_money]
  (repeat (refine And.intro ?_ ?_;focus((repeat' first|with_reducible(first|apply And.intro|assumption|rfl)|exact trivial|exact rfl|decide); done)))
  refine ⟨fun _ _ => ?_, trivial⟩
  (repeat (refine And.intro ?_ ?_;focus((repeat' first|with_reducible(first|apply And.intro|assumption|rfl)|exact trivial|exact rfl|decide); done)))
  refine ⟨⟨trivial, hacts⟩, by (repeat' first|with_reducible(first|apply And.intro|assumption|rfl)|exact trivial|exact rfl|decide), fun _ _ => ?_, fun _ hl => ?_, trivial⟩
  · (repeat (refine And.intro ?_ ?_;focus((repeat' first|with_reducible(first|apply And.intro|assumption|rfl)|exact trivial|exact rfl|decide); done)))
    refine ⟨fun _ _ => ?_, trivial⟩
    (repeat (refine And.intro ?_ ?_;focus((repeat' first|with_reducible(first|apply And.intro|assumption|rfl)|exact trivial|exact rfl|decide); done)))
    refine ⟨(), ?_⟩
    (repeat' first|with_reducible(first|apply And.intro|assumption|rfl)|exact trivial|exact rfl|decide)
  (repeat (refine And.intro ?_ ?_;focus((repeat' first|with_reducible(first|apply And.intro|assumption|rfl)|exact trivial|exact rfl|decide); done)))
  refine ⟨⟨trivial, hw, hx, hy⟩, by (repeat' first|with_reducible(first|apply And.intro|assumption|rfl)|exact trivial|exact rfl|decide), fun b hb => ?_, trivial⟩
  obtain ⟨k0, -, -, hi0⟩ := hb
  (repeat (refine And.intro ?_ ?_;focus((repeat' first|with_reducible(first|apply And.intro|assumption|rfl)|exact trivial|exact rfl|decide); done)))
  intro x10 e10
  (repeat (refine And.intro ?_ ?_;focus((repeat' first|with_reducible(first|apply And.intro|assumption|rfl)|exact trivial|exact rfl|decide); done)))
  intro x11 e11
  (repeat (refine And.intro ?_ ?_;focus((repeat' first|with_reducible(first|apply And.intro|assumption|rfl)|exact trivial|exact rfl|decide); done)))
  intro x12 e12
  (repeat (refine And.intro ?_ ?_;focus((repeat' first|with_reducible(first|apply And.intro|assumption|rfl)|exact trivial|exact rfl|decide); done)))
  intro x13 e13
  rw [wrU hx] at e10
  rw [wrU hy] at e11
  rw [wr64 (by omega)] at e12
  refine ⟨⟨⟨⟨⟨b.g, b.p, a.x, a.y⟩, ⟨b.g, b.p, a.x, a.y⟩, ⟨b.g, b.p, a.x, a.y⟩, ⟨b.g, b.p, a.x, a.y⟩⟩, 0⟩, ⟨⟨Int.le_refl _, by show (0 : Int) ≤ a.l; omega⟩, ⟨⟨k0, 0, hi0⟩, smI hx.1 (show a.x ≤ 1000000 by omega), smI hy.1 (show a.y ≤ 1000000 by omega)⟩, rfl⟩, ?_⟩, fun e he => ?_, fun e he => ?_, fun e he => ?_, fun e he => ?_, trivial⟩
  · obtain ⟨g1, g2, g3, g4, g5, g6, g7, g8, g9, g10, g11⟩ := flG_of hi0
    have e12 : a.x + a.y = x12 := by omega
    have e13 := e13.symm
    (repeat' first|with_reducible(first|apply And.intro|assumption|rfl)|exact trivial|exact rfl|decide)
  · obtain ⟨t, i⟩ := e
    obtain ⟨⟨i1, i2⟩, ok, tot⟩ := he
    have i1 : 0 ≤ i := i1
    have i2 : i ≤ a.l := i2
    have tot : (t.a.x + t.a.y) = a.x + a.y := tot
    obtain ⟨⟨k1, j1, h1⟩, ⟨s11, s12⟩, s13, s14⟩ := ok
    have h1 : isG t.a.g t.a.p k1 j1 := h1
    have s11 : 0 ≤ t.a.x := s11
    have s12 : t.a.x ≤ 1000000 := s12
    have s13 : 0 ≤ t.a.y := s13
    have s14 : t.a.y ≤ 1000000 := s14
    obtain ⟨v11, v12, v13, v14, v15, v16, v17, v18, v19, v110, v111⟩ := flG_of h1
    refine ⟨fun hlt => ?_, fun hlt => ?_⟩
    rotate_left
    · (repeat (refine And.intro ?_ ?_;focus((repeat' first|with_reducible(first|apply And.intro|assumption|rfl)|exact trivial|exact rfl|decide); done)))
      refine ⟨(), ?_⟩
      (repeat' first|with_reducible(first|apply And.intro|assumption|rfl)|exact trivial|exact rfl|decide)
    have hlt : i < a.l := hlt
    obtain ⟨b1, o1, hv, w1, t1, z1, v1, va, vl, vc, ⟨q1, q2, q3, q4, q5⟩, ⟨r1, r2, r3⟩, htwo⟩ := hacts.2 i.toNat (by omega)
    refine ⟨⟨i1, hlt⟩, b1, o1, hv, fun p ep => ⟨w1, by rw [ep]; exact q1, t1, by rw [ep]; exact q2, z1, by rw [ep]; exact q3, v1, by rw [ep]; exact q4, va, vl, vc, by rw [ep]; exact q5, ?_⟩⟩
    (repeat (refine And.intro ?_ ?_;focus((repeat' first|with_reducible(first|apply And.intro|assumption|rfl)|exact trivial|exact rfl|decide); done)))
    refine ⟨⟨trivial, ⟨k1, j1, h1⟩, ⟨⟨⟨s11, s12⟩, s13, s14⟩, ⟨smI (Int.le_refl _) (by decide), smI (Int.le_refl _) (by decide)⟩⟩, ⟨r1, r2, r3⟩, htwo⟩, by (repeat' first|with_reducible(first|apply And.intro|assumption|rfl)|exact trivial|exact rfl|decide), fun m hm => ?_, fun er her => ?_, fun g hg => ?_, trivial⟩
    · obtain ⟨k9, j9, m9, i91, -, i93⟩ := hm
      exact tl1 _ _ _ _ _ _ i1 hlt hla hx hy ⟨k9, m9, i93⟩ ⟨s11, s12⟩ ⟨s13, s14⟩ (by show (t.a.x + t.a.y) = a.x + a.y; omega)
    · skip
      exact tl1 _ _ _ _ _ _ i1 hlt hla hx hy ⟨k1, j1, h1⟩ ⟨s11, s12⟩ ⟨s13, s14⟩ (by show (t.a.x + t.a.y) = a.x + a.y; omega)
    · obtain ⟨⟨-, hgx, -, ⟨b91, b92⟩, b93, b94⟩, hu, hv2⟩ := hg
      have b91 : 0 ≤ g.b.x := b91
      have b93 : 0 ≤ g.b.y := b93
      have b92 : g.b.x ≤ t.a.x := b92
      have b94 : g.b.y ≤ t.a.y := b94
      have hu : g.u = t.a.x - g.b.x := hu
      have hv2 : g.v = t.a.y - g.b.y := hv2
      exact tl2 _ _ _ _ _ _ _ _ _ _ i1 hlt hla hx hy ⟨k1, j1, h1⟩ (smI (show 0 ≤ g.u by omega) (show g.u ≤ 1000000 by omega)) (smI (show 0 ≤ g.v by omega) (show g.v ≤ 1000000 by omega)) hgx (smI (show 0 ≤ g.b.x by omega) (show g.b.x ≤ 1000000 by omega)) (smI (show 0 ≤ g.b.y by omega) (show g.b.y ≤ 1000000 by omega)) (by show (g.u + g.v) + (g.b.x + g.b.y) = a.x + a.y; omega)
  · obtain ⟨t, i⟩ := e
    obtain ⟨⟨i1, i2⟩, ok, tot⟩ := he
    have i1 : 0 ≤ i := i1
    have i2 : i ≤ a.l := i2
    have tot : (t.a.x + t.a.y) + (t.b.x + t.b.y) = a.x + a.y := tot
    obtain ⟨⟨⟨k1, j1, h1⟩, ⟨s11, s12⟩, s13, s14⟩, ⟨⟨k2, j2, h2⟩, ⟨s21, s22⟩, s23, s24⟩⟩ := ok
    have h1 : isG t.a.g t.a.p k1 j1 := h1
    have s11 : 0 ≤ t.a.x := s11
    have s12 : t.a.x ≤ 1000000 := s12
    have s13 : 0 ≤ t.a.y := s13
    have s14 : t.a.y ≤ 1000000 := s14
    obtain ⟨v11, v12, v13, v14, v15, v16, v17, v18, v19, v110, v111⟩ := flG_of h1
    have h2 : isG t.b.g t.b.p k2 j2 := h2
    have s21 : 0 ≤ t.b.x := s21
    have s22 : t.b.x ≤ 1000000 := s22
    have s23 : 0 ≤ t.b.y := s23
    have s24 : t.b.y ≤ 1000000 := s24
    obtain ⟨v21, v22, v23, v24, v25, v26, v27, v28, v29, v210, v211⟩ := flG_of h2
    refine ⟨fun hlt => ?_, fun hlt => ?_⟩
    rotate_left
    · (repeat (refine And.intro ?_ ?_;focus((repeat' first|with_reducible(first|apply And.intro|assumption|rfl)|exact trivial|exact rfl|decide); done)))
      refine ⟨(), ?_⟩
      (repeat' first|with_reducible(first|apply And.intro|assumption|rfl)|exact trivial|exact rfl|decide)
    have hlt : i < a.l := hlt
    obtain ⟨b1, o1, hv, w1, t1, z1, v1, va, vl, vc, ⟨q1, q2, q3, q4, q5⟩, ⟨r1, r2, r3⟩, htwo⟩ := hacts.2 i.toNat (by omega)
    refine ⟨⟨i1, hlt⟩, b1, o1, hv, fun p ep => ⟨w1, by rw [ep]; exact q1, t1, by rw [ep]; exact q2, z1, by rw [ep]; exact q3, v1, by rw [ep]; exact q4, va, vl, vc, by rw [ep]; exact q5, ?_⟩⟩
    (repeat (refine And.intro ?_ ?_;focus((repeat' first|with_reducible(first|apply And.intro|assumption|rfl)|exact trivial|exact rfl|decide); done)))
    refine ⟨⟨trivial, ⟨k2, j2, h2⟩, ⟨⟨⟨s21, s22⟩, s23, s24⟩, ⟨⟨s11, s12⟩, s13, s14⟩⟩, ⟨r1, r2, r3⟩, htwo⟩, by (repeat' first|with_reducible(first|apply And.intro|assumption|rfl)|exact trivial|exact rfl|decide), fun m hm => ?_, fun er her => ?_, fun g hg => ?_, fun z hz => ?_, trivial⟩
    · obtain ⟨k9, j9, m9, i91, -, i93⟩ := hm
      exact tl2 _ _ _ _ _ _ _ _ _ _ i1 hlt hla hx hy ⟨k1, j1, h1⟩ ⟨s11, s12⟩ ⟨s13, s14⟩ ⟨k9, m9, i93⟩ ⟨s21, s22⟩ ⟨s23, s24⟩ (by show (t.a.x + t.a.y) + (t.b.x + t.b.y) = a.x + a.y; omega)
    · skip
      exact tl2 _ _ _ _ _ _ _ _ _ _ i1 hlt hla hx hy ⟨k1, j1, h1⟩ ⟨s11, s12⟩ ⟨s13, s14⟩ ⟨k2, j2, h2⟩ ⟨s21, s22⟩ ⟨s23, s24⟩ (by show (t.a.x + t.a.y) + (t.b.x + t.b.y) = a.x + a.y; omega)
    · obtain ⟨⟨-, hgx, -, ⟨b91, b92⟩, b93, b94⟩, hu, hv2⟩ := hg
      have b91 : 0 ≤ g.b.x := b91
      have b93 : 0 ≤ g.b.y := b93
      have b92 : g.b.x ≤ t.b.x := b92
      have b94 : g.b.y ≤ t.b.y := b94
      have hu : g.u = t.b.x - g.b.x := hu
      have hv2 : g.v = t.b.y - g.b.y := hv2
      exact tl3 _ _ _ _ _ _ _ _ _ _ _ _ _ _ i1 hlt hla hx hy ⟨k1, j1, h1⟩ ⟨s11, s12⟩ ⟨s13, s14⟩ ⟨k2, j2, h2⟩ (smI (show 0 ≤ g.u by omega) (show g.u ≤ 1000000 by omega)) (smI (show 0 ≤ g.v by omega) (show g.v ≤ 1000000 by omega)) hgx (smI (show 0 ≤ g.b.x by omega) (show g.b.x ≤ 1000000 by omega)) (smI (show 0 ≤ g.b.y by omega) (show g.b.y ≤ 1000000 by omega)) (by show (t.a.x + t.a.y) + (g.u + g.v) + (g.b.x + g.b.y) = a.x + a.y; omega)
    · obtain ⟨⟨-, k9, j9, -, -, hpay⟩, hu, hv2⟩ := hz
      obtain ⟨⟨z91, z92⟩, z93⟩ := payR_ok hpay (by show 0 ≤ t.b.x + t.b.y; omega)
      have z93 : z.b.x + z.b.y = t.b.x + t.b.y := z93
      have z91 : 0 ≤ z.b.x := z91
      have z92 : 0 ≤ z.b.y := z92
      have hu : z.u = t.a.x + z.b.x := hu
      have hv2 : z.v = t.a.y + z.b.y := hv2
      exact tl1 _ _ _ _ _ _ i1 hlt hla hx hy ⟨k1, j1, h1⟩ (smI (show 0 ≤ z.u by omega) (show z.u ≤ 1000000 by omega)) (smI (show 0 ≤ z.v by omega) (show z.v ≤ 1000000 by omega)) (by show (z.u + z.v) = a.x + a.y; omega)
  · obtain ⟨t, i⟩ := e
    obtain ⟨⟨i1, i2⟩, ok, tot⟩ := he
    have i1 : 0 ≤ i := i1
    have i2 : i ≤ a.l := i2
    have tot : (t.a.x + t.a.y) + (t.b.x + t.b.y) + (t.c.x + t.c.y) = a.x + a.y := tot
    obtain ⟨⟨⟨k1, j1, h1⟩, ⟨s11, s12⟩, s13, s14⟩, ⟨⟨k2, j2, h2⟩, ⟨s21, s22⟩, s23, s24⟩, ⟨⟨k3, j3, h3⟩, ⟨s31, s32⟩, s33, s34⟩⟩ := ok
    have h1 : isG t.a.g t.a.p k1 j1 := h1
    have s11 : 0 ≤ t.a.x := s11
    have s12 : t.a.x ≤ 1000000 := s12
    have s13 : 0 ≤ t.a.y := s13
    have s14 : t.a.y ≤ 1000000 := s14
    obtain ⟨v11, v12, v13, v14, v15, v16, v17, v18, v19, v110, v111⟩ := flG_of h1
    have h2 : isG t.b.g t.b.p k2 j2 := h2
    have s21 : 0 ≤ t.b.x := s21
    have s22 : t.b.x ≤ 1000000 := s22
    have s23 : 0 ≤ t.b.y := s23
    have s24 : t.b.y ≤ 1000000 := s24
    obtain ⟨v21, v22, v23, v24, v25, v26, v27, v28, v29, v210, v211⟩ := flG_of h2
    have h3 : isG t.c.g t.c.p k3 j3 := h3
    have s31 : 0 ≤ t.c.x := s31
    have s32 : t.c.x ≤ 1000000 := s32
    have s33 : 0 ≤ t.c.y := s33
    have s34 : t.c.y ≤ 1000000 := s34
    obtain ⟨v31, v32, v33, v34, v35, v36, v37, v38, v39, v310, v311⟩ := flG_of h3
    refine ⟨fun hlt => ?_, fun hlt => ?_⟩
    rotate_left
    · (repeat (refine And.intro ?_ ?_;focus((repeat' first|with_reducible(first|apply And.intro|assumption|rfl)|exact trivial|exact rfl|decide); done)))
      refine ⟨(), ?_⟩
      (repeat' first|with_reducible(first|apply And.intro|assumption|rfl)|exact trivial|exact rfl|decide)
    have hlt : i < a.l := hlt
    obtain ⟨b1, o1, hv, w1, t1, z1, v1, va, vl, vc, ⟨q1, q2, q3, q4, q5⟩, ⟨r1, r2, r3⟩, htwo⟩ := hacts.2 i.toNat (by omega)
    refine ⟨⟨i1, hlt⟩, b1, o1, hv, fun p ep => ⟨w1, by rw [ep]; exact q1, t1, by rw [ep]; exact q2, z1, by rw [ep]; exact q3, v1, by rw [ep]; exact q4, va, vl, vc, by rw [ep]; exact q5, ?_⟩⟩
    (repeat (refine And.intro ?_ ?_;focus((repeat' first|with_reducible(first|apply And.intro|assumption|rfl)|exact trivial|exact rfl|decide); done)))
    refine ⟨⟨trivial, ⟨k3, j3, h3⟩, ⟨⟨⟨s31, s32⟩, s33, s34⟩, ⟨⟨s21, s22⟩, s23, s24⟩⟩, ⟨r1, r2, r3⟩, htwo⟩, by (repeat' first|with_reducible(first|apply And.intro|assumption|rfl)|exact trivial|exact rfl|decide), fun m hm => ?_, fun er her => ?_, fun g hg => ?_, fun z hz => ?_, trivial⟩
    · obtain ⟨k9, j9, m9, i91, -, i93⟩ := hm
      exact tl3 _ _ _ _ _ _ _ _ _ _ _ _ _ _ i1 hlt hla hx hy ⟨k1, j1, h1⟩ ⟨s11, s12⟩ ⟨s13, s14⟩ ⟨k2, j2, h2⟩ ⟨s21, s22⟩ ⟨s23, s24⟩ ⟨k9, m9, i93⟩ ⟨s31, s32⟩ ⟨s33, s34⟩ (by show (t.a.x + t.a.y) + (t.b.x + t.b.y) + (t.c.x + t.c.y) = a.x + a.y; omega)
    · skip
      exact tl3 _ _ _ _ _ _ _ _ _ _ _ _ _ _ i1 hlt hla hx hy ⟨k1, j1, h1⟩ ⟨s11, s12⟩ ⟨s13, s14⟩ ⟨k2, j2, h2⟩ ⟨s21, s22⟩ ⟨s23, s24⟩ ⟨k3, j3, h3⟩ ⟨s31, s32⟩ ⟨s33, s34⟩ (by show (t.a.x + t.a.y) + (t.b.x + t.b.y) + (t.c.x + t.c.y) = a.x + a.y; omega)
    · obtain ⟨⟨-, hgx, -, ⟨b91, b92⟩, b93, b94⟩, hu, hv2⟩ := hg
      have b91 : 0 ≤ g.b.x := b91
      have b93 : 0 ≤ g.b.y := b93
      have b92 : g.b.x ≤ t.c.x := b92
      have b94 : g.b.y ≤ t.c.y := b94
      have hu : g.u = t.c.x - g.b.x := hu
      have hv2 : g.v = t.c.y - g.b.y := hv2
      exact tl4 _ _ _ _ _ _ _ _ _ _ _ _ _ _ _ _ _ _ i1 hlt hla hx hy ⟨k1, j1, h1⟩ ⟨s11, s12⟩ ⟨s13, s14⟩ ⟨k2, j2, h2⟩ ⟨s21, s22⟩ ⟨s23, s24⟩ ⟨k3, j3, h3⟩ (smI (show 0 ≤ g.u by omega) (show g.u ≤ 1000000 by omega)) (smI (show 0 ≤ g.v by omega) (show g.v ≤ 1000000 by omega)) hgx (smI (show 0 ≤ g.b.x by omega) (show g.b.x ≤ 1000000 by omega)) (smI (show 0 ≤ g.b.y by omega) (show g.b.y ≤ 1000000 by omega)) (by show (t.a.x + t.a.y) + (t.b.x + t.b.y) + (g.u + g.v) + (g.b.x + g.b.y) = a.x + a.y; omega)
    · obtain ⟨⟨-, k9, j9, -, -, hpay⟩, hu, hv2⟩ := hz
      obtain ⟨⟨z91, z92⟩, z93⟩ := payR_ok hpay (by show 0 ≤ t.c.x + t.c.y; omega)
      have z93 : z.b.x + z.b.y = t.c.x + t.c.y := z93
      have z91 : 0 ≤ z.b.x := z91
      have z92 : 0 ≤ z.b.y := z92
      have hu : z.u = t.b.x + z.b.x := hu
      have hv2 : z.v = t.b.y + z.b.y := hv2
      exact tl2 _ _ _ _ _ _ _ _ _ _ i1 hlt hla hx hy ⟨k1, j1, h1⟩ ⟨s11, s12⟩ ⟨s13, s14⟩ ⟨k2, j2, h2⟩ (smI (show 0 ≤ z.u by omega) (show z.u ≤ 1000000 by omega)) (smI (show 0 ≤ z.v by omega) (show z.v ≤ 1000000 by omega)) (by show (t.a.x + t.a.y) + (z.u + z.v) = a.x + a.y; omega)
  · obtain ⟨t, i⟩ := e
    obtain ⟨⟨i1, i2⟩, ok, tot⟩ := he
    have i1 : 0 ≤ i := i1
    have i2 : i ≤ a.l := i2
    have tot : (t.a.x + t.a.y) + (t.b.x + t.b.y) + (t.c.x + t.c.y) + (t.e.x + t.e.y) = a.x + a.y := tot
    obtain ⟨⟨⟨k1, j1, h1⟩, ⟨s11, s12⟩, s13, s14⟩, ⟨⟨k2, j2, h2⟩, ⟨s21, s22⟩, s23, s24⟩, ⟨⟨k3, j3, h3⟩, ⟨s31, s32⟩, s33, s34⟩, ⟨⟨k4, j4, h4⟩, ⟨s41, s42⟩, s43, s44⟩⟩ := ok
    have h1 : isG t.a.g t.a.p k1 j1 := h1
    have s11 : 0 ≤ t.a.x := s11
    have s12 : t.a.x ≤ 1000000 := s12
    have s13 : 0 ≤ t.a.y := s13
    have s14 : t.a.y ≤ 1000000 := s14
    obtain ⟨v11, v12, v13, v14, v15, v16, v17, v18, v19, v110, v111⟩ := flG_of h1
    have h2 : isG t.b.g t.b.p k2 j2 := h2
    have s21 : 0 ≤ t.b.x := s21
    have s22 : t.b.x ≤ 1000000 := s22
    have s23 : 0 ≤ t.b.y := s23
    have s24 : t.b.y ≤ 1000000 := s24
    obtain ⟨v21, v22, v23, v24, v25, v26, v27, v28, v29, v210, v211⟩ := flG_of h2
    have h3 : isG t.c.g t.c.p k3 j3 := h3
    have s31 : 0 ≤ t.c.x := s31
    have s32 : t.c.x ≤ 1000000 := s32
    have s33 : 0 ≤ t.c.y := s33
    have s34 : t.c.y ≤ 1000000 := s34
    obtain ⟨v31, v32, v33, v34, v35, v36, v37, v38, v39, v310, v311⟩ := flG_of h3
    have h4 : isG t.e.g t.e.p k4 j4 := h4
    have s41 : 0 ≤ t.e.x := s41
    have s42 : t.e.x ≤ 1000000 := s42
    have s43 : 0 ≤ t.e.y := s43
    have s44 : t.e.y ≤ 1000000 := s44
    obtain ⟨v41, v42, v43, v44, v45, v46, v47, v48, v49, v410, v411⟩ := flG_of h4
    refine ⟨fun hlt => ?_, fun hlt => ?_⟩
    rotate_left
    · (repeat (refine And.intro ?_ ?_;focus((repeat' first|with_reducible(first|apply And.intro|assumption|rfl)|exact trivial|exact rfl|decide); done)))
      refine ⟨(), ?_⟩
      (repeat' first|with_reducible(first|apply And.intro|assumption|rfl)|exact trivial|exact rfl|decide)
    have hlt : i < a.l := hlt
    obtain ⟨b1, o1, hv, w1, t1, z1, v1, va, vl, vc, ⟨q1, q2, q3, q4, q5⟩, ⟨r1, r2, r3⟩, htwo⟩ := hacts.2 i.toNat (by omega)
    refine ⟨⟨i1, hlt⟩, b1, o1, hv, fun p ep => ⟨w1, by rw [ep]; exact q1, t1, by rw [ep]; exact q2, z1, by rw [ep]; exact q3, v1, by rw [ep]; exact q4, va, vl, vc, by rw [ep]; exact q5, ?_⟩⟩
    (repeat (refine And.intro ?_ ?_;focus((repeat' first|with_reducible(first|apply And.intro|assumption|rfl)|exact trivial|exact rfl|decide); done)))
    refine ⟨⟨trivial, ⟨k4, j4, h4⟩, ⟨⟨⟨s41, s42⟩, s43, s44⟩, ⟨⟨s31, s32⟩, s33, s34⟩⟩, ⟨r1, r2, r3⟩, htwo⟩, by (repeat' first|with_reducible(first|apply And.intro|assumption|rfl)|exact trivial|exact rfl|decide), fun m hm => ?_, fun er her => ?_, fun z hz => ?_, trivial⟩
    · obtain ⟨k9, j9, m9, i91, -, i93⟩ := hm
      exact tl4 _ _ _ _ _ _ _ _ _ _ _ _ _ _ _ _ _ _ i1 hlt hla hx hy ⟨k1, j1, h1⟩ ⟨s11, s12⟩ ⟨s13, s14⟩ ⟨k2, j2, h2⟩ ⟨s21, s22⟩ ⟨s23, s24⟩ ⟨k3, j3, h3⟩ ⟨s31, s32⟩ ⟨s33, s34⟩ ⟨k9, m9, i93⟩ ⟨s41, s42⟩ ⟨s43, s44⟩ (by show (t.a.x + t.a.y) + (t.b.x + t.b.y) + (t.c.x + t.c.y) + (t.e.x + t.e.y) = a.x + a.y; omega)
    · skip
      exact tl4 _ _ _ _ _ _ _ _ _ _ _ _ _ _ _ _ _ _ i1 hlt hla hx hy ⟨k1, j1, h1⟩ ⟨s11, s12⟩ ⟨s13, s14⟩ ⟨k2, j2, h2⟩ ⟨s21, s22⟩ ⟨s23, s24⟩ ⟨k3, j3, h3⟩ ⟨s31, s32⟩ ⟨s33, s34⟩ ⟨k4, j4, h4⟩ ⟨s41, s42⟩ ⟨s43, s44⟩ (by show (t.a.x + t.a.y) + (t.b.x + t.b.y) + (t.c.x + t.c.y) + (t.e.x + t.e.y) = a.x + a.y; omega)
    · obtain ⟨⟨-, k9, j9, -, -, hpay⟩, hu, hv2⟩ := hz
      obtain ⟨⟨z91, z92⟩, z93⟩ := payR_ok hpay (by show 0 ≤ t.e.x + t.e.y; omega)
      have z93 : z.b.x + z.b.y = t.e.x + t.e.y := z93
      have z91 : 0 ≤ z.b.x := z91
      have z92 : 0 ≤ z.b.y := z92
      have hu : z.u = t.c.x + z.b.x := hu
      have hv2 : z.v = t.c.y + z.b.y := hv2
      exact tl3 _ _ _ _ _ _ _ _ _ _ _ _ _ _ i1 hlt hla hx hy ⟨k1, j1, h1⟩ ⟨s11, s12⟩ ⟨s13, s14⟩ ⟨k2, j2, h2⟩ ⟨s21, s22⟩ ⟨s23, s24⟩ ⟨k3, j3, h3⟩ (smI (show 0 ≤ z.u by omega) (show z.u ≤ 1000000 by omega)) (smI (show 0 ≤ z.v by omega) (show z.v ≤ 1000000 by omega)) (by show (t.a.x + t.a.y) + (t.b.x + t.b.y) + (z.u + z.v) = a.x + a.y; omega)
theorem s_doM1 : SpecOK Tryz.prog S_doM1.spec := fun a K hp hq => spec_to (S := S_do1) (T := S_doM1) (a := a) (b := a) rfl rfl rfl rfl (s_do1 a) hp (fun _ hq => ⟨hq.1, hq.2.1, fun b hb => hq.2.2.1 ⟨b.g, b.p, b.b, _, _⟩ ⟨hb, rfl, rfl⟩, trivial⟩) K hp hq
theorem s_doM2 : SpecOK Tryz.prog S_doM2.spec := fun a K hp hq => spec_to (S := S_do2) (T := S_doM2) (a := a) (b := a) rfl rfl rfl rfl (s_do2 a) hp (fun _ hq => ⟨hq.1, hq.2.1, fun b hb => hq.2.2.1 ⟨b.g, b.p, b.b, _, _⟩ ⟨hb, rfl, rfl⟩, fun b hb => hq.2.2.2.1 ⟨b, _, _⟩ ⟨hb, rfl, rfl⟩, trivial⟩) K hp hq
theorem s_doM3 : SpecOK Tryz.prog S_doM3.spec := fun a K hp hq => spec_to (S := S_do3) (T := S_doM3) (a := a) (b := a) rfl rfl rfl rfl (s_do3 a) hp (fun _ hq => ⟨hq.1, hq.2.1, fun b hb => hq.2.2.1 ⟨b.g, b.p, b.b, _, _⟩ ⟨hb, rfl, rfl⟩, fun b hb => hq.2.2.2.1 ⟨b, _, _⟩ ⟨hb, rfl, rfl⟩, trivial⟩) K hp hq
theorem s_doM4 : SpecOK Tryz.prog S_doM4.spec := fun a K hp hq => spec_to (S := S_do4) (T := S_doM4) (a := a) (b := a) rfl rfl rfl rfl (s_do4 a) hp (fun _ hq => ⟨hq.1, hq.2.1, fun b hb => hq.2.2.1 ⟨b, _, _⟩ ⟨hb, rfl, rfl⟩, trivial⟩) K hp hq
theorem cwLw_ok : CwOK Tryz.prog (cwX cwLw 3) := cwX_ok (fun _ h => cwD_ok s_known (cwD_ok s_few (cwD_ok s_begin (cwE_ok s_doM1 (cwE_ok s_doM2 (cwE_ok s_doM3 (cwE_ok s_doM4 (cwE_ok s_held1 (cwE_ok s_held2 (cwE_ok s_held3 (cwE_ok s_held4 (cwE_ok (S := S_paysE 0) s_pays0 (cwE_ok (S := S_paysE 1) s_pays1 (cwE_ok (S := S_paysE 2) s_pays2 (cwE_ok (S := S_paysE 3) s_pays3 h))))))))))))))) 3
theorem s_money : SpecOK Tryz.prog S_money.spec := fun a => specG_at (an := [some (la_mon a)]) envOK cwLw_ok fun hp => g_money a hp.1.1 hp.1.2.1 hp.1.2.2 hp.2
end Go.Proofs.YtfkacmmcgncooaaGreatDoor
