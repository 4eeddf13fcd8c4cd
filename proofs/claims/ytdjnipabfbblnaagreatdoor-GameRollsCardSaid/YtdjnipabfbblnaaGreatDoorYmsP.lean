/- The machine: a step is what is told of it. -/
import Derived.Test.YtdjnipabfbblnaaGreatDoorYmcP
section
set_option maxRecDepth 100000
namespace Go.Proofs.YtdjnipabfbblnaaGreatDoor
open Go.Ev
set_option linter.unusedSectionVars false
variable [Go.Ev.Frozen Tryz.prog]
noncomputable section
def W_G_step_0 : Int → Int → Int → Int → Option AO := fun (x17 x18 x19 x20 : Int) => Option.some (AO.row [Value.iface (1000000007 : Nat) (Value.int IntKind.i64 x17), Value.iface (1000000007 : Nat) (Value.int IntKind.i64 x18),
Value.iface (1000000007 : Nat) (Value.int IntKind.i64 x19), Value.iface (1000000007 : Nat) (Value.int IntKind.i64 x20)] (307 : Nat) Md.own)
end
abbrev QYmsP_9 (a0 : StA) (a1 : StO) : Prop := ∀ (b0 b1 : List Int), HE IntKind.i32 a0.5 b0 → List.length b0 = a0.3 → W32 b0 → Sli (Value.int IntKind.i64) 4 a0.6.1 a0.6.2 a0.6.3
 a0.6.4 a0.6.5 b1 → HE IntKind.i32 a1.3 (stepC b1 (MS.mk a0.1 b0 a0.2)).2 ∧ a1.1 = (stepC b1 (MS.mk a0.1 b0 a0.2)).1 ∧ a1.2 = (stepC b1 (MS.mk a0.1 b0 a0.2)).3
abbrev QYmsP_12 (a0 : List Value) : Prop := ZF a0 ∧ (11 = 11 ∧ (True ∧ True) ∧ (True ∧ True) ∧ (True ∧ True) ∧ (True ∧ True) ∧ (True ∧ True) ∧ (True ∧ True) ∧ (True ∧ True) ∧ (True
 ∧ True) ∧ (True ∧ True) ∧ (True ∧ True) ∧ (True ∧ True) ∧ True) ∧ ZF cells4 ∧ True
abbrev QYmsP_19 (a0 : List Value) (a1 : List Value) (a2 : Nat) (a3 : Int) : Prop := a0 = lput a1 a2 [Value.iface 1000000007 (Value.int IntKind.i32 a3)]
abbrev QYmsP_2 (a0 : StA) (a1 : Int) (a2 : List Value) : Prop := ∃ (b0 : StO), QYmsP_9 a0 b0 ∧ True ∧ (True ∧ b0.1 = a1 ∧ (0 = 0 ∧ a0.3 = a0.3 ∧ a0.4 = a0.4) ∧ b0.2 = a0.2 ∧ True)
 ∧ (a0.4 = a0.4 ∧ FlatL b0.3 ∧ b0.3 = a2) ∧ QYmsP_12 a0.6.5
abbrev QYmsP_7 : Prop := True ∧ True ∧ True ∧ True ∧ True ∧ True ∧ True ∧ True ∧ True ∧ True
abbrev QYmsP_20 : Prop := True ∧ True ∧ True ∧ True ∧ True ∧ True ∧ True ∧ True ∧ QYmsP_7
abbrev QYmsP_13 : Prop := True ∧ True ∧ True ∧ QYmsP_20
abbrev QYmsP_18 (a0 : Int) (a1 : StA) (a2 : Int) (a3 : Int) (a4 : Int) (a5 : Int) : Prop := ((0 : Int) ≤ a0 ∧ a0 < (↑a1.3 : Int)) ∧ ∀ (b0 : Nat), b0 = 0 + Int.toNat a0 * 1 → b0 + 1
 ≤ List.length a1.5 ∧ ∀ (b1 : List Value), b1 = lput a1.5 b0 [Value.int IntKind.i32 (0 : Int)] → ((True ∧ True) ∧ (True ∧ True) ∧ (W_G_step_0 a2 a0 a3 a4 = W_G_step_0 a2 a0 a3 a4 ∧
 True) ∧ QYmsP_13) ∧ QYmsP_2 a1 a5 b1
abbrev QYmsP_3 (a0 : StA) (a1 : Int) : Prop := ∃ (b0 : StO), QYmsP_9 a0 b0 ∧ True ∧ (True ∧ b0.1 = a1 ∧ (0 = 0 ∧ a0.3 = a0.3 ∧ a0.4 = a0.4) ∧ b0.2 = a0.2 ∧ True) ∧ (a0.4 = a0.4 ∧
 FlatL b0.3 ∧ b0.3 = a0.5) ∧ QYmsP_12 a0.6.5
abbrev QYmsP_15 (a0 : Int) (a1 : StA) (a2 : Int) (a3 : Int) (a4 : Int) : Prop := ((0 : Int) ≤ a0 ∧ a0 < (↑a1.3 : Int)) ∧ ∀ (b0 : Nat), b0 = 0 + Int.toNat a0 * 1 → ∃ (b1 : Int), Rd
 a1.5 (Nat.add b0 0) (Value.int IntKind.i32 b1) ∧ (b1 = (0 : Int) → (a2 = (20 : Int) → (True ∧ QYmsP_7) ∧ QYmsP_3 a1 a3) ∧ (¬(a2 = (20 : Int)) → (True ∧ QYmsP_7) ∧ QYmsP_3 a1 a4)) ∧
 (¬(b1 = (0 : Int)) → (a2 = (20 : Int) → (True ∧ QYmsP_7) ∧ QYmsP_3 a1 a4) ∧ (¬(a2 = (20 : Int)) → (True ∧ QYmsP_7) ∧ QYmsP_3 a1 a3))
abbrev QYmsP_4 (a0 : Int) (a1 : Int) (a2 : Int) (a3 : Int) (a4 : StA) (a5 : Int) (a6 : List Value) : Prop := ((True ∧ True) ∧ (True ∧ True) ∧ (W_G_step_0 a0 a1 a2 a3 = W_G_step_0
 a0 a1 a2 a3 ∧ True) ∧ QYmsP_20) ∧ QYmsP_2 a4 a5 a6
abbrev QYmsP_11 (a0 : Int) (a1 : StA) (a2 : Int) (a3 : Int) (a4 : Int) (a5 : Int) (a6 : Int) : Prop := ((0 : Int) ≤ a0 ∧ a0 < (↑a1.3 : Int)) ∧ ∀ (b0 : Nat), b0 = 0 + Int.toNat a0 *
 1 → b0 + 1 ≤ List.length a1.5 ∧ ∀ (b1 : List Value), QYmsP_19 b1 a1.5 b0 a2 → QYmsP_4 a3 a0 a4 a5 a1 a6 b1
abbrev QYmsP_6 (a0 : Int) (a1 : StA) (a2 : Int) (a3 : Int) (a4 : Int) (a5 : Int) : Prop := ((0 : Int) ≤ a0 ∧ a0 < (↑a1.3 : Int)) ∧ ∀ (b0 : Nat), b0 = 0 + Int.toNat a0 * 1 → b0 + 1
 ≤ List.length a1.5 ∧ ∀ (b1 : List Value), b1 = lput a1.5 b0 [Value.int IntKind.i32 (0 : Int)] → QYmsP_4 a2 a0 a3 a4 a1 a5 b1
abbrev QYmsP_8 (a0 : Int) (a1 : StA) (a2 : Int) (a3 : Int) (a4 : Int) (a5 : Int) : Prop := ((0 : Int) ≤ a0 ∧ a0 < (↑a1.3 : Int)) ∧ ∀ (b0 : Nat), b0 = 0 + Int.toNat a0 * 1 → b0 + 1
 ≤ List.length a1.5 ∧ ∀ (b1 : List Value), b1 = lput a1.5 b0 [Value.int IntKind.i32 (1 : Int)] → QYmsP_4 a2 a0 a3 a4 a1 a5 b1
abbrev QYmsP_1 (a0 : StA) (a1 : Int) (a2 : Int) (a3 : Int) (a4 : Int) (a5 : Int) : Prop := ∀ (b0 : Int), b0 = IntKind.wrap .i64 (a0.1 + (1 : Int)) → (a1 = (0 : Int) → (∀ (b1 :
 Int), b1 = IntKind.wrap .i64 ((1 : Int) + a2) → ∃ (b2 : StO), QYmsP_9 a0 b2 ∧ True ∧ (True ∧ b2.1 = a0.1 ∧ (0 = 0 ∧ a0.3 = a0.3 ∧ a0.4 = a0.4) ∧ b2.2 = b1 ∧ True) ∧ (a0.4 = a0.4 ∧
 FlatL b2.3 ∧ b2.3 = a0.5) ∧ QYmsP_12 a0.6.5)) ∧ (¬(a1 = (0 : Int)) → (a1 = (1 : Int) → (∀ (b1 : Int), b1 = IntKind.wrap .i32 a3 → ((0 : Int) ≤ a2 ∧ a2 < (↑a0.3 : Int)) ∧ ∀ (b2 :
 Nat), b2 = 0 + Int.toNat a2 * 1 → b2 + 1 ≤ List.length a0.5 ∧ ∀ (b3 : List Value), QYmsP_19 b3 a0.5 b2 b1 → QYmsP_2 a0 b0 b3)) ∧ (¬(a1 = (1 : Int)) → (a1 = (2 : Int) → ((0 : Int) ≤
 a3 ∧ a3 < (↑a0.3 : Int)) ∧ (∀ (b1 : Nat), b1 = 0 + Int.toNat a3 * 1 → ∃ (b2 : Int), Rd a0.5 (Nat.add b1 0) (Value.int IntKind.i32 b2) ∧ ((0 : Int) ≤ a2 ∧ a2 < (↑a0.3 : Int)) ∧ ∀
 (b3 : Nat), b3 = 0 + Int.toNat a2 * 1 → b3 + 1 ≤ List.length a0.5 ∧ ∀ (b4 : List Value), QYmsP_19 b4 a0.5 b3 b2 → (True ∧ QYmsP_7) ∧ QYmsP_2 a0 b0 b4)) ∧ (¬(a1 = (2 : Int)) → (a1 =
 (14 : Int) → ((0 : Int) ≤ a3 ∧ a3 < (↑a0.3 : Int)) ∧ (∀ (b1 : Nat), b1 = 0 + Int.toNat a3 * 1 → ∃ (b2 : Int), Rd a0.5 (Nat.add b1 0) (Value.int IntKind.i32 b2) ∧ (b2 = (0 : Int) →
 ((0 : Int) ≤ a2 ∧ a2 < (↑a0.3 : Int)) ∧ (∀ (b3 : Nat), b3 = 0 + Int.toNat a2 * 1 → b3 + 1 ≤ List.length a0.5 ∧ ∀ (b4 : List Value), b4 = lput a0.5 b3 [Value.int IntKind.i32 (1 :
 Int)] → ((True ∧ True) ∧ (True ∧ True) ∧ (W_G_step_0 a1 a2 a3 a4 = W_G_step_0 a1 a2 a3 a4 ∧ True) ∧ QYmsP_7) ∧ QYmsP_2 a0 b0 b4)) ∧ (¬(b2 = (0 : Int)) → ((0 : Int) ≤ a2 ∧ a2 <
 (↑a0.3 : Int)) ∧ ∀ (b3 : Nat), b3 = 0 + Int.toNat a2 * 1 → b3 + 1 ≤ List.length a0.5 ∧ ∀ (b4 : List Value), b4 = lput a0.5 b3 [Value.int IntKind.i32 (0 : Int)] → ((True ∧ True) ∧
 (True ∧ True) ∧ (W_G_step_0 a1 a2 a3 a4 = W_G_step_0 a1 a2 a3 a4 ∧ True) ∧ QYmsP_7) ∧ QYmsP_2 a0 b0 b4))) ∧ (¬(a1 = (14 : Int)) → (a1 = (15 : Int) → (0 ≤ a5 ∧ a5 < (↑a0.3 : Int)) ∧
 (∀ (b1 : Nat), b1 = 0 + Int.toNat a5 * 1 → ∃ (b2 : Int), Rd a0.5 (Nat.add b1 0) (Value.int IntKind.i32 b2) ∧ ((0 : Int) ≤ a2 ∧ a2 < (↑a0.3 : Int)) ∧ ∀ (b3 : Nat), b3 = 0 +
 Int.toNat a2 * 1 → b3 + 1 ≤ List.length a0.5 ∧ ∀ (b4 : List Value), QYmsP_19 b4 a0.5 b3 b2 → QYmsP_7 ∧ QYmsP_2 a0 b0 b4)) ∧ (¬(a1 = (15 : Int)) → (a1 = (16 : Int) → ((0 : Int) ≤ a4
 ∧ a4 < (↑a0.3 : Int)) ∧ (∀ (b1 : Nat), b1 = 0 + Int.toNat a4 * 1 → ∃ (b2 : Int), Rd a0.5 (Nat.add b1 0) (Value.int IntKind.i32 b2) ∧ (0 ≤ a5 ∧ a5 < (↑a0.3 : Int)) ∧ ∀ (b3 : Nat),
 b3 = 0 + Int.toNat a5 * 1 → b3 + 1 ≤ List.length a0.5 ∧ ∀ (b4 : List Value), QYmsP_19 b4 a0.5 b3 b2 → QYmsP_2 a0 b0 b4)) ∧ (¬(a1 = (16 : Int)) → (a1 = (17 : Int) → ((0 : Int) ≤ a2
 ∧ a2 < (↑a0.3 : Int)) ∧ (∀ (b1 : Nat), b1 = 0 + Int.toNat a2 * 1 → ∃ (b2 : Int), Rd a0.5 (Nat.add b1 0) (Value.int IntKind.i32 b2) ∧ ∀ (b3 : Int), b3 = IntKind.wrap .i32 a3 → ∀ (b4
 : Int), b4 = Max.max b2 b3 → ∀ (b5 : Int), b5 = IntKind.wrap .i32 a4 → ∀ (b6 : Int), b6 = Min.min b4 b5 → ((0 : Int) ≤ a2 ∧ a2 < (↑a0.3 : Int)) ∧ ∀ (b7 : Nat), b7 = 0 + Int.toNat
 a2 * 1 → b7 + 1 ≤ List.length a0.5 ∧ ∀ (b8 : List Value), QYmsP_19 b8 a0.5 b7 b6 → (True ∧ QYmsP_20) ∧ QYmsP_2 a0 b0 b8)) ∧ (¬(a1 = (17 : Int)) → (a1 = (18 : Int) → ((0 : Int) ≤ a3
 ∧ a3 < (↑a0.3 : Int)) ∧ (∀ (b1 : Nat), b1 = 0 + Int.toNat a3 * 1 → ∃ (b2 : Int), Rd a0.5 (Nat.add b1 0) (Value.int IntKind.i32 b2) ∧ ((0 : Int) ≤ b2 → ((0 : Int) ≤ a3 ∧ a3 < (↑a0.3
 : Int)) ∧ (∀ (b3 : Nat), b3 = 0 + Int.toNat a3 * 1 → ∃ (b4 : Int), Rd a0.5 (Nat.add b3 0) (Value.int IntKind.i32 b4) ∧ ∀ (b5 : Int), b5 = IntKind.wrap .i64 b4 → (b5 < a4 → ((0 :
 Int) ≤ a2 ∧ a2 < (↑a0.3 : Int)) ∧ (∀ (b6 : Nat), b6 = 0 + Int.toNat a2 * 1 → b6 + 1 ≤ List.length a0.5 ∧ ∀ (b7 : List Value), b7 = lput a0.5 b6 [Value.int IntKind.i32 (1 : Int)] →
 ((True ∧ True) ∧ (True ∧ True) ∧ (W_G_step_0 a1 a2 a3 a4 = W_G_step_0 a1 a2 a3 a4 ∧ True) ∧ QYmsP_13) ∧ QYmsP_2 a0 b0 b7)) ∧ (¬(b5 < a4) → QYmsP_18 a2 a0 a1 a3 a4 b0))) ∧ (¬((0 :
 Int) ≤ b2) → QYmsP_18 a2 a0 a1 a3 a4 b0))) ∧ (¬(a1 = (18 : Int)) → (a1 = (19 : Int) → QYmsP_3 a0 a2) ∧ (¬(a1 = (19 : Int)) → (a1 = (20 : Int) → QYmsP_15 a3 a0 a1 a2 b0) ∧ (¬(a1 =
 (20 : Int)) → (a1 = (21 : Int) → QYmsP_15 a3 a0 a1 a2 b0) ∧ (¬(a1 = (21 : Int)) → (a1 = (3 : Int) → ((0 : Int) ≤ a3 ∧ a3 < (↑a0.3 : Int)) ∧ (∀ (b1 : Nat), b1 = 0 + Int.toNat a3 * 1
 → ∃ (b2 : Int), Rd a0.5 (Nat.add b1 0) (Value.int IntKind.i32 b2) ∧ ((0 : Int) ≤ a4 ∧ a4 < (↑a0.3 : Int)) ∧ ∀ (b3 : Nat), b3 = 0 + Int.toNat a4 * 1 → ∃ (b4 : Int), Rd a0.5 (Nat.add
 b3 0) (Value.int IntKind.i32 b4) ∧ ∀ (b5 : Int), b5 = IntKind.wrap .i32 (b2 + b4) → QYmsP_11 a2 a0 b5 a1 a3 a4 b0)) ∧ (a1 ≠ (3 : Int) → (a1 = (4 : Int) → ((0 : Int) ≤ a3 ∧ a3 <
 (↑a0.3 : Int)) ∧ (∀ (b1 : Nat), b1 = 0 + Int.toNat a3 * 1 → ∃ (b2 : Int), Rd a0.5 (Nat.add b1 0) (Value.int IntKind.i32 b2) ∧ ((0 : Int) ≤ a4 ∧ a4 < (↑a0.3 : Int)) ∧ ∀ (b3 : Nat),
 b3 = 0 + Int.toNat a4 * 1 → ∃ (b4 : Int), Rd a0.5 (Nat.add b3 0) (Value.int IntKind.i32 b4) ∧ ∀ (b5 : Int), b5 = IntKind.wrap .i32 (b2 - b4) → QYmsP_11 a2 a0 b5 a1 a3 a4 b0)) ∧ (a1
 ≠ (4 : Int) → (a1 = (5 : Int) → ((0 : Int) ≤ a3 ∧ a3 < (↑a0.3 : Int)) ∧ (∀ (b1 : Nat), b1 = 0 + Int.toNat a3 * 1 → ∃ (b2 : Int), Rd a0.5 (Nat.add b1 0) (Value.int IntKind.i32 b2) ∧
 ((0 : Int) ≤ a4 ∧ a4 < (↑a0.3 : Int)) ∧ ∀ (b3 : Nat), b3 = 0 + Int.toNat a4 * 1 → ∃ (b4 : Int), Rd a0.5 (Nat.add b3 0) (Value.int IntKind.i32 b4) ∧ ∀ (b5 : Int), b5 = IntKind.wrap
 .i32 (b2 * b4) → QYmsP_11 a2 a0 b5 a1 a3 a4 b0)) ∧ (a1 ≠ (5 : Int) → (a1 = (6 : Int) → ((0 : Int) ≤ a3 ∧ a3 < (↑a0.3 : Int)) ∧ (∀ (b1 : Nat), b1 = 0 + Int.toNat a3 * 1 → ∃ (b2 :
 Int), Rd a0.5 (Nat.add b1 0) (Value.int IntKind.i32 b2) ∧ ((0 : Int) ≤ a4 ∧ a4 < (↑a0.3 : Int)) ∧ ∀ (b3 : Nat), b3 = 0 + Int.toNat a4 * 1 → ∃ (b4 : Int), Rd a0.5 (Nat.add b3 0)
 (Value.int IntKind.i32 b4) ∧ (b4 = (0 : Int) → QYmsP_6 a2 a0 a1 a3 a4 b0) ∧ (¬(b4 = (0 : Int)) → b4 ≠ (0 : Int) ∧ ∀ (b5 : Int), b5 = IntKind.wrap .i32 (Int.tdiv b2 b4) → QYmsP_11
 a2 a0 b5 a1 a3 a4 b0))) ∧ (a1 ≠ (6 : Int) → (a1 = (7 : Int) → ((0 : Int) ≤ a3 ∧ a3 < (↑a0.3 : Int)) ∧ (∀ (b1 : Nat), b1 = 0 + Int.toNat a3 * 1 → ∃ (b2 : Int), Rd a0.5 (Nat.add b1
 0) (Value.int IntKind.i32 b2) ∧ ((0 : Int) ≤ a4 ∧ a4 < (↑a0.3 : Int)) ∧ ∀ (b3 : Nat), b3 = 0 + Int.toNat a4 * 1 → ∃ (b4 : Int), Rd a0.5 (Nat.add b3 0) (Value.int IntKind.i32 b4) ∧
 (b4 = (0 : Int) → QYmsP_6 a2 a0 a1 a3 a4 b0) ∧ (¬(b4 = (0 : Int)) → b4 ≠ (0 : Int) ∧ ∀ (b5 : Int), b5 = Int.tmod b2 b4 → QYmsP_11 a2 a0 b5 a1 a3 a4 b0))) ∧ (a1 ≠ (7 : Int) → (a1 =
 (8 : Int) → ((0 : Int) ≤ a3 ∧ a3 < (↑a0.3 : Int)) ∧ (∀ (b1 : Nat), b1 = 0 + Int.toNat a3 * 1 → ∃ (b2 : Int), Rd a0.5 (Nat.add b1 0) (Value.int IntKind.i32 b2) ∧ ((0 : Int) ≤ a4 ∧
 a4 < (↑a0.3 : Int)) ∧ ∀ (b3 : Nat), b3 = 0 + Int.toNat a4 * 1 → ∃ (b4 : Int), Rd a0.5 (Nat.add b3 0) (Value.int IntKind.i32 b4) ∧ (b2 = b4 → QYmsP_8 a2 a0 a1 a3 a4 b0) ∧ (¬(b2 =
 b4) → QYmsP_6 a2 a0 a1 a3 a4 b0))) ∧ (a1 ≠ (8 : Int) → (a1 = (9 : Int) → ((0 : Int) ≤ a3 ∧ a3 < (↑a0.3 : Int)) ∧ (∀ (b1 : Nat), b1 = 0 + Int.toNat a3 * 1 → ∃ (b2 : Int), Rd a0.5
 (Nat.add b1 0) (Value.int IntKind.i32 b2) ∧ ((0 : Int) ≤ a4 ∧ a4 < (↑a0.3 : Int)) ∧ ∀ (b3 : Nat), b3 = 0 + Int.toNat a4 * 1 → ∃ (b4 : Int), Rd a0.5 (Nat.add b3 0) (Value.int
 IntKind.i32 b4) ∧ (b2 ≠ b4 → QYmsP_8 a2 a0 a1 a3 a4 b0) ∧ (¬(b2 ≠ b4) → QYmsP_6 a2 a0 a1 a3 a4 b0))) ∧ (a1 ≠ (9 : Int) → (a1 = (10 : Int) → ((0 : Int) ≤ a3 ∧ a3 < (↑a0.3 : Int)) ∧
 (∀ (b1 : Nat), b1 = 0 + Int.toNat a3 * 1 → ∃ (b2 : Int), Rd a0.5 (Nat.add b1 0) (Value.int IntKind.i32 b2) ∧ ((0 : Int) ≤ a4 ∧ a4 < (↑a0.3 : Int)) ∧ ∀ (b3 : Nat), b3 = 0 +
 Int.toNat a4 * 1 → ∃ (b4 : Int), Rd a0.5 (Nat.add b3 0) (Value.int IntKind.i32 b4) ∧ (b2 < b4 → QYmsP_8 a2 a0 a1 a3 a4 b0) ∧ (¬(b2 < b4) → QYmsP_6 a2 a0 a1 a3 a4 b0))) ∧ (a1 ≠ (10
 : Int) → (a1 = (11 : Int) → ((0 : Int) ≤ a3 ∧ a3 < (↑a0.3 : Int)) ∧ (∀ (b1 : Nat), b1 = 0 + Int.toNat a3 * 1 → ∃ (b2 : Int), Rd a0.5 (Nat.add b1 0) (Value.int IntKind.i32 b2) ∧ ((0
 : Int) ≤ a4 ∧ a4 < (↑a0.3 : Int)) ∧ ∀ (b3 : Nat), b3 = 0 + Int.toNat a4 * 1 → ∃ (b4 : Int), Rd a0.5 (Nat.add b3 0) (Value.int IntKind.i32 b4) ∧ (b2 ≤ b4 → QYmsP_8 a2 a0 a1 a3 a4
 b0) ∧ (¬(b2 ≤ b4) → QYmsP_6 a2 a0 a1 a3 a4 b0))) ∧ (a1 ≠ (11 : Int) → (a1 = (12 : Int) → ((0 : Int) ≤ a3 ∧ a3 < (↑a0.3 : Int)) ∧ (∀ (b1 : Nat), b1 = 0 + Int.toNat a3 * 1 → ∃ (b2 :
 Int), Rd a0.5 (Nat.add b1 0) (Value.int IntKind.i32 b2) ∧ ((0 : Int) ≤ a4 ∧ a4 < (↑a0.3 : Int)) ∧ ∀ (b3 : Nat), b3 = 0 + Int.toNat a4 * 1 → ∃ (b4 : Int), Rd a0.5 (Nat.add b3 0)
 (Value.int IntKind.i32 b4) ∧ (b2 ≠ (0 : Int) → (b4 ≠ (0 : Int) → QYmsP_8 a2 a0 a1 a3 a4 b0) ∧ (¬(b4 ≠ (0 : Int)) → QYmsP_6 a2 a0 a1 a3 a4 b0)) ∧ (¬(b2 ≠ (0 : Int)) → QYmsP_6 a2 a0
 a1 a3 a4 b0))) ∧ (a1 ≠ (12 : Int) → (a1 = (13 : Int) → ((0 : Int) ≤ a3 ∧ a3 < (↑a0.3 : Int)) ∧ (∀ (b1 : Nat), b1 = 0 + Int.toNat a3 * 1 → ∃ (b2 : Int), Rd a0.5 (Nat.add b1 0)
 (Value.int IntKind.i32 b2) ∧ ((0 : Int) ≤ a4 ∧ a4 < (↑a0.3 : Int)) ∧ ∀ (b3 : Nat), b3 = 0 + Int.toNat a4 * 1 → ∃ (b4 : Int), Rd a0.5 (Nat.add b3 0) (Value.int IntKind.i32 b4) ∧ (b2
 ≠ (0 : Int) → QYmsP_8 a2 a0 a1 a3 a4 b0) ∧ (¬(b2 ≠ (0 : Int)) → (b4 ≠ (0 : Int) → QYmsP_8 a2 a0 a1 a3 a4 b0) ∧ (¬(b4 ≠ (0 : Int)) → QYmsP_6 a2 a0 a1 a3 a4 b0)))) ∧ (a1 ≠ (13 : Int)
 → ((0 : Int) ≤ a3 ∧ a3 < (↑a0.3 : Int)) ∧ ∀ (b1 : Nat), b1 = 0 + Int.toNat a3 * 1 → ∃ (b2 : Int), Rd a0.5 (Nat.add b1 0) (Value.int IntKind.i32 b2) ∧ ((0 : Int) ≤ a4 ∧ a4 < (↑a0.3
 : Int)) ∧ ∀ (b3 : Nat), b3 = 0 + Int.toNat a4 * 1 → ∃ (b4 : Int), Rd a0.5 (Nat.add b3 0) (Value.int IntKind.i32 b4) ∧ False))))))))))))))))))))))
abbrev QYmsP_5 (a0 : StA) : Prop := ∃ (b0 : StO), QYmsP_9 a0 b0 ∧ True ∧ (True ∧ b0.1 = a0.1 ∧ (0 = 0 ∧ a0.3 = a0.3 ∧ a0.4 = a0.4) ∧ b0.2 = 2 ∧ True) ∧ (a0.4 = a0.4 ∧ FlatL b0.3 ∧
 b0.3 = a0.5) ∧ QYmsP_12 a0.6.5
abbrev QYmsP_16 (a0 : StA) : Prop := (True ∧ a0.1 = a0.1 ∧ (0 = 0 ∧ a0.3 = a0.3 ∧ a0.4 = a0.4) ∧ a0.2 = a0.2 ∧ True) ∧ (a0.4 = a0.4 ∧ FlatL a0.5 ∧ a0.5 = a0.5) ∧ True
abbrev QYmsP_10 (a0 : FaA) : Prop := ∃ (b0 : KI), (∀ (b1 : List Int), HE IntKind.i32 a0.1.5 b1 → List.length b1 = a0.1.3 → b0.1 = farC a0.2 b1) ∧ b0.1 = -1 ∧ QYmsP_16 a0.1
abbrev QYmsP_14 (a0 : FaA) (a1 : Int) : Prop := (True ∧ True ∧ True ∧ True ∧ QYmsP_7) ∧ ∀ (b0 : Int), b0 = (↑a0.1.3 : Int) → (b0 ≤ a1 → QYmsP_10 a0) ∧ (¬(b0 ≤ a1) → ∀ (b1 : Int),
 b1 = Max.max a1 (-1 : Int) → ∃ (b2 : KI), (∀ (b3 : List Int), HE IntKind.i32 a0.1.5 b3 → List.length b3 = a0.1.3 → b2.1 = farC a0.2 b3) ∧ b2.1 = b1 ∧ QYmsP_16 a0.1)
abbrev QYmsP_17 : Prop := True ∧ True ∧ True ∧ True ∧ True ∧ True ∧ True ∧ True ∧ True ∧ True ∧ QYmsP_13
theorem vc_far (a : FaA) (xs : List Int) : G_far a xs = ((a.2.1 = 15 → (0 ≤ a.2.4 ∧ a.2.4 < (↑a.1.3 : Int)) ∧ (∀ (x0 : Nat), x0 = 0 + Int.toNat a.2.4 * 1 → ∃ (x1 : Int), Rd a.1.5 (Nat.add x0 0) (Value.int IntKind.i32 x1) ∧ ∀ (x2 : Int),
x2 = IntKind.wrap .i64 x1 → ∀ (x3 : Int), x3 = IntKind.wrap .i64 (a.2.3 + x2) → QYmsP_14 a x3)) ∧ (¬(a.2.1 = 15) → (a.2.1 = 16 → (0 ≤ a.2.3 ∧ a.2.3 < (↑a.1.3 : Int)) ∧ (∀ (x10 :
Nat), x10 = 0 + Int.toNat a.2.3 * 1 → ∃ (x11 : Int), Rd a.1.5 (Nat.add x10 0) (Value.int IntKind.i32 x11) ∧ ∀ (x12 : Int), x12 = IntKind.wrap .i64 x11 → ∀ (x13 : Int), x13 =
IntKind.wrap .i64 (a.2.2 + x12) → QYmsP_14 a x13)) ∧ (¬(a.2.1 = 16) → ∀ (x20 : Int), x20 = (↑a.1.3 : Int) → (x20 ≤ (-1 : Int) → QYmsP_10 a) ∧ (¬(x20 ≤ (-1 : Int)) → QYmsP_10 a)))) := by kernel_rfl
set_option maxHeartbeats 3200000 in
set_option maxHeartbeats 3200000 in
theorem vc_step (a : StA) (xs cs : List Int) : G_step a xs cs = (∀ (x0 : Int), x0 = (↑a.6.3 : Int) → ((2048 : Int) < x0 → QYmsP_17 ∧ QYmsP_5 a) ∧ (¬((2048 : Int) < x0) → ∀ (x4 : Int), x4 = (↑a.6.3 : Int) → (x4 ≤ a.1 → QYmsP_17 ∧ QYmsP_5 a) ∧
(¬(x4 ≤ a.1) → (0 ≤ a.1 ∧ a.1 < (↑a.6.3 : Int)) ∧ ∀ (x8 : Nat), x8 = a.6.2 + Int.toNat a.1 * 4 → ∃ (x9 : Int), Rd a.6.5 (Nat.add x8 0) (Value.int IntKind.i64 x9) ∧ ∃ (x10 : Int),
Rd a.6.5 (Nat.add x8 1) (Value.int IntKind.i64 x10) ∧ ∃ (x11 : Int), Rd a.6.5 (Nat.add x8 2) (Value.int IntKind.i64 x11) ∧ ∃ (x12 : Int), Rd a.6.5 (Nat.add x8 3) (Value.int
IntKind.i64 x12) ∧ ∀ (x13 : Int), x13 = (↑a.6.3 : Int) → ∀ (x14 : Int), x14 = (↑a.3 : Int) → (True ∧ True) ∧ (((x9 = x9 ∧ x10 = x10 ∧ x11 = x11 ∧ x12 = x12 ∧ True) ∧ x13 = x13 ∧
x14 = x14 ∧ True) ∧ ZF cells4 ∧ True) ∧ (∀ (_ : Unit), ((0 : Int) ≤ x9 ∧ x9 < (22 : Int)) ∧ (argP (hasC x9) 0 x10 x13 x14 ∧ argP (hasC x9) 1 x11 x13 x14 ∧ argP (hasC x9) 2 x12 x13
x14) ∧ (x9 = (0 : Int) → x10 = (0 : Int) ∨ x10 = (1 : Int)) ∧ (x9 = (17 : Int) → x11 ≤ x12) ∧ (x9 = (18 : Int) → (0 : Int) ≤ x12) → QYmsP_17 ∧ (0 ≤ a.1 ∧ a.1 < (↑a.6.3 : Int)) ∧ ∀
(x16 : Nat), x16 = a.6.2 + Int.toNat a.1 * 4 → ∃ (x17 : Int), Rd a.6.5 (Nat.add x16 0) (Value.int IntKind.i64 x17) ∧ ∃ (x18 : Int), Rd a.6.5 (Nat.add x16 1) (Value.int IntKind.i64
x18) ∧ ∃ (x19 : Int), Rd a.6.5 (Nat.add x16 2) (Value.int IntKind.i64 x19) ∧ ∃ (x20 : Int), Rd a.6.5 (Nat.add x16 3) (Value.int IntKind.i64 x20) ∧ (True ∧ (∃ (x21 : List Int), HE
IntKind.i32 a.5 x21 ∧ List.length x21 = a.3 ∧ W32 x21) ∧ a.3 ≤ 256 ∧ (x17 = (15 : Int) → (0 : Int) ≤ x20 ∧ x20 < (↑a.3 : Int)) ∧ (x17 = (16 : Int) → (0 : Int) ≤ x19 ∧ x19 < (↑a.3 :
Int))) ∧ ((0 = 0 ∧ (x17 = x17 ∧ x18 = x18 ∧ x19 = x19 ∧ x20 = x20 ∧ True) ∧ True) ∧ QYmsP_16 a) ∧ (∀ (x22 : KI), (∀ (x23 : List Int), HE IntKind.i32 a.5 x23 → List.length x23 = a.3
→ x22.1 = farC (Ins.mk x17 x18 x19 x20) x23) → (x22.1 < 0 → (x17 = (15 : Int) → QYmsP_5 a) ∧ (¬(x17 = (15 : Int)) → (x17 = (16 : Int) → QYmsP_5 a) ∧ (¬(x17 = (16 : Int)) → QYmsP_1
a x17 x18 x19 x20 x22.1))) ∧ (¬(x22.1 < 0) → QYmsP_1 a x17 x18 x19 x20 x22.1)) ∧ True) ∧ (∀ (_ : Unit), (rightP x13 x14 (Ins.mk x9 x10 x11 x12) → False) → QYmsP_17 ∧ QYmsP_5 a) ∧
True))) := by kernel_rfl
theorem rdm {c : List Value} {xs : List Int} (hx : HE .i32 c xs) {i : Int} {n : Nat} (hn : n = 0 + Int.toNat i * 1) (h0 : 0 ≤ i) (h1 : i < xs.length) : Rd c (Nat.add n 0) (.int .i32 (xs.getD i.toNat 0)) := by
  have hl : i.toNat < xs.length := by omega
  have := hx.at_ i.toNat (xs.getD i.toNat 0) (by simp [List.getD, hl])
  rw [Nat.zero_add] at this
  rw [show Nat.add n 0 = i.toNat by simp; omega]
  exact this
theorem wrm {c c' : List Value} {xs : List Int} (hx : HE .i32 c xs) {i z : Int} {n : Nat} (hn : n = 0 + Int.toNat i * 1) (h0 : 0 ≤ i) (h1 : i < xs.length) (hc : c' = lput c n [tgI .i32 z]) : HE .i32 c' (xs.set i.toNat z) := by
  have hl : i.toNat < xs.length := by omega
  rw [hc, show n = i.toNat by omega]
  exact HW.put hx hl
theorem lput_ne {c : List Value} {i j : Nat} (v : Value) (hi : i < c.length) (h : j ≠ i) : (lput c i [v])[j]? = c[j]? := by
  unfold lput
  rcases Nat.lt_or_ge j i with h1 | h1
  · rw [List.getElem?_append_left (by simp; omega), List.getElem?_take_of_lt h1]
  · rw [List.getElem?_append_right (by simp; omega)]
    have e1 : j - (List.take i c).length = (j - i - 1) + 1 := by simp; omega
    rw [e1, List.singleton_append, List.getElem?_cons_succ, List.getElem?_drop]
    congr 1; simp; omega
theorem lput_eq {c : List Value} {i : Nat} (v : Value) (hi : i < c.length) : (lput c i [v])[i]? = some v := by
  unfold lput
  rw [List.getElem?_append_right (by simp; omega)]
  simp [show i - min i c.length = 0 by omega]
theorem wrm2 {c c' : List Value} {xs : List Int} (hx : HE .i32 c xs) {i z : Int} {n : Nat} (hn : n = 0 + Int.toNat i * 1) (h0 : 0 ≤ i) (h1 : i < xs.length) (hc : c' = lput c n [.int .i32 z]) : HE .i32 c' (xs.set i.toNat z) := by
  have hl : i.toNat < xs.length := by omega
  have h2 := HW.put (z := z) hx hl
  have hlen := hx.len
  have e : n = i.toNat := by omega
  subst hc e
  refine ⟨by have := h2.len; simpa [lput] using this, fun j x hj => ?_⟩
  have h3 := h2.at_ j x hj
  rw [Nat.zero_add] at h3 ⊢
  by_cases hji : j = i.toNat
  · subst hji
    rw [List.getElem?_set_self (by omega)] at hj
    cases hj
    exact .inl (lput_eq _ (by omega))
  · unfold Rd at h3 ⊢
    rw [lput_ne _ (by omega) hji] at h3 ⊢; exact h3
theorem heZ {c : List Value} {xs : List Int} (hx : HE .i32 c xs) {i : Nat} {v : Value} (h : c[i]? = some v) : ∃ z, v = .int .i32 z ∨ v = tgI .i32 z := by
  have hl := hx.len
  have hi : i < xs.length := by have := (List.getElem?_eq_some_iff.1 h).1; omega
  have := hx.at_ i xs[i] (List.getElem?_eq_getElem hi)
  rw [Nat.zero_add] at this
  rcases this with e | e
  · rw [e] at h; cases h; exact ⟨_, .inl rfl⟩
  · rw [e] at h; cases h; exact ⟨_, .inr rfl⟩
theorem heFlat {c : List Value} {xs : List Int} (hx : HE .i32 c xs) : FlatL c := fun v hv => by
  obtain ⟨i, hi, h⟩ := List.getElem_of_mem hv
  obtain ⟨z, e | e⟩ := heZ hx (List.getElem?_eq_some_iff.2 ⟨hi, h⟩)
  · rw [e]; rfl
  · rw [e]; rfl
theorem heUniq {c : List Value} {xs ys : List Int} (hx : HE .i32 c xs) (hy : HE .i32 c ys) : xs = ys := HV.uniq (fun _ _ _ _ => Rd.int) hx.at_ hy.at_ (by rw [← hx.len, ← hy.len])
theorem memD {xs : List Int} {i : Int} (h0 : 0 ≤ i) (h1 : i < xs.length) : xs.getD i.toNat 0 ∈ xs := by
  have hl : i.toNat < xs.length := by omega
  have : xs.getD i.toNat 0 = xs[i.toNat] := by simp [List.getD, hl]
  rw [this]; exact List.getElem_mem hl
theorem g_far (a : FaA) (xs : List Int) (hx : HE .i32 a.t.c xs) (hl : xs.length = a.t.l) (hw : W32 xs) (h256 : a.t.l ≤ 256) (h15 : a.i.op = 15 → 0 ≤ a.i.c ∧ a.i.c < a.t.l) (h16 : a.i.op = 16 → 0 ≤ a.i.b ∧ a.i.b < a.t.l) : G_far a xs := by
  have fin : ∀ k : Int, k = farC a.i xs → ∀ ys, HE .i32 a.t.c ys → ys.length = a.t.l → k = farC a.i ys := fun k hk ys hy _ => by rw [heUniq hy hx]; exact hk
  have fl := heFlat hx
  rw [vc_far]
  refine ⟨fun o15 => ⟨h15 o15, fun x0 e0 => ⟨xs.getD a.i.c.toNat 0, rdm hx e0 (h15 o15).1 (by rw [hl]; exact (h15 o15).2), fun x2 e2 x3 e3 => ⟨by repeat' first | with_reducible apply And.intro | exact trivial | exact rfl | assumption, fun x4 e4 => ⟨fun h => ⟨⟨-1⟩, fin _ ?_, rfl, by repeat' first | with_reducible apply And.intro | exact trivial | exact rfl | assumption, ⟨rfl, fl, rfl⟩, trivial⟩, fun h x7 e7 => ⟨⟨x7⟩, fin _ ?_, rfl, by repeat' first | with_reducible apply And.intro | exact trivial | exact rfl | assumption, ⟨rfl, fl, rfl⟩, trivial⟩⟩⟩⟩⟩,
    fun o15 => ⟨fun o16 => ⟨h16 o16, fun x0 e0 => ⟨xs.getD a.i.b.toNat 0, rdm hx e0 (h16 o16).1 (by rw [hl]; exact (h16 o16).2), fun x2 e2 x3 e3 => ⟨by repeat' first | with_reducible apply And.intro | exact trivial | exact rfl | assumption, fun x4 e4 => ⟨fun h => ⟨⟨-1⟩, fin _ ?_, rfl, by repeat' first | with_reducible apply And.intro | exact trivial | exact rfl | assumption, ⟨rfl, fl, rfl⟩, trivial⟩, fun h x7 e7 => ⟨⟨x7⟩, fin _ ?_, rfl, by repeat' first | with_reducible apply And.intro | exact trivial | exact rfl | assumption, ⟨rfl, fl, rfl⟩, trivial⟩⟩⟩⟩⟩,
      fun o16 x20 e20 => ⟨fun h => ⟨⟨-1⟩, fin _ ?_, rfl, by repeat' first | with_reducible apply And.intro | exact trivial | exact rfl | assumption, ⟨rfl, fl, rfl⟩, trivial⟩, fun h => ⟨⟨-1⟩, fin _ ?_, rfl, by repeat' first | with_reducible apply And.intro | exact trivial | exact rfl | assumption, ⟨rfl, fl, rfl⟩, trivial⟩⟩⟩⟩
  all_goals (unfold farC; simp only [])
  · have h1 := hw _ (memD (h15 o15).1 (by rw [hl]; exact (h15 o15).2))
    rw [if_pos o15, if_pos (by rw [hl, ← e4, ← wrap_sm (x := xs.getD a.i.c.toNat 0) (by omega), ← e2, ← e3]; exact h)]
  · have h1 := hw _ (memD (h15 o15).1 (by rw [hl]; exact (h15 o15).2))
    rw [if_pos o15, if_neg (by rw [hl, ← e4, ← wrap_sm (x := xs.getD a.i.c.toNat 0) (by omega), ← e2, ← e3]; exact h), e7, e3, e2, wrap_sm (x := xs.getD a.i.c.toNat 0) (by omega)]
  · have h1 := hw _ (memD (h16 o16).1 (by rw [hl]; exact (h16 o16).2))
    rw [if_neg o15, if_pos o16, if_pos (by rw [hl, ← e4, ← wrap_sm (x := xs.getD a.i.b.toNat 0) (by omega), ← e2, ← e3]; exact h)]
  · have h1 := hw _ (memD (h16 o16).1 (by rw [hl]; exact (h16 o16).2))
    rw [if_neg o15, if_pos o16, if_neg (by rw [hl, ← e4, ← wrap_sm (x := xs.getD a.i.b.toNat 0) (by omega), ← e2, ← e3]; exact h), e7, e3, e2, wrap_sm (x := xs.getD a.i.b.toNat 0) (by omega)]
  · rw [if_neg o15, if_neg o16, if_pos (by rw [hl, ← e20]; exact h)]
  · rw [if_neg o15, if_neg o16, if_neg (by rw [hl, ← e20]; exact h)]; rfl
theorem s_far : SpecOK Tryz.prog S_far.spec := fun a K ⟨⟨xs, hx, hl, hw⟩, h256, h15, h16⟩ hq => specD_at (an := []) envOK cw0_ok (fun _ => g_far a xs hx hl hw h256 h15 h16) K ⟨⟨xs, hx, hl, hw⟩, h256, h15, h16⟩ hq
end Go.Proofs.YtdjnipabfbblnaaGreatDoor
end

/- The machine: what a step stores. -/
section
set_option maxRecDepth 100000
namespace Go.Proofs.YtdjnipabfbblnaaGreatDoor
open Go.Ev
set_option linter.unusedSectionVars false
variable [Go.Ev.Frozen Tryz.prog]
theorem st1 {o A B C : Int} {m : List Int} {z : Int} (h : o = 1) (hz : z = IntKind.wrap .i32 B) : storeC ⟨o, A, B, C⟩ m = some (A, z) := by
  subst h; subst hz; simp only [storeC, twoC, truthC]; generalize m.getD B.toNat 0 = vb at *; generalize m.getD C.toNat 0 = vc at *; simp
theorem st2 {o A B C : Int} {m : List Int} (h : o = 2) : storeC ⟨o, A, B, C⟩ m = some (A, m.getD B.toNat 0) := by
  subst h; simp only [storeC, twoC, truthC]; generalize m.getD B.toNat 0 = vb at *; generalize m.getD C.toNat 0 = vc at *; simp
theorem st14p {o A B C : Int} {m : List Int} (h : o = 14) (e : m.getD B.toNat 0 = 0) : storeC ⟨o, A, B, C⟩ m = some (A, 1) := by
  subst h; simp only [storeC, twoC, truthC]; generalize m.getD B.toNat 0 = vb at *; generalize m.getD C.toNat 0 = vc at *; simp [e]
theorem st14n {o A B C : Int} {m : List Int} (h : o = 14) (e : ¬ m.getD B.toNat 0 = 0) : storeC ⟨o, A, B, C⟩ m = some (A, 0) := by
  subst h; simp only [storeC, twoC, truthC]; generalize m.getD B.toNat 0 = vb at *; generalize m.getD C.toNat 0 = vc at *; simp [e]
theorem st15 {o A B C : Int} {m : List Int} (h : o = 15) : storeC ⟨o, A, B, C⟩ m = some (A, m.getD (farC ⟨o, A, B, C⟩ m).toNat 0) := by
  subst h; simp only [storeC, twoC, truthC]; generalize m.getD B.toNat 0 = vb at *; generalize m.getD C.toNat 0 = vc at *; simp
theorem st16 {o A B C : Int} {m : List Int} (h : o = 16) : storeC ⟨o, A, B, C⟩ m = some (farC ⟨o, A, B, C⟩ m, m.getD C.toNat 0) := by
  subst h; simp only [storeC, twoC, truthC]; generalize m.getD B.toNat 0 = vb at *; generalize m.getD C.toNat 0 = vc at *; simp
theorem st17 {o A B C : Int} {m : List Int} {z : Int} (h : o = 17) (hz : z = min (max (m.getD A.toNat 0) (IntKind.wrap .i32 B)) (IntKind.wrap .i32 C)) : storeC ⟨o, A, B, C⟩ m = some (A, z) := by
  subst h; subst hz; simp only [storeC, twoC, truthC]; generalize m.getD B.toNat 0 = vb at *; generalize m.getD C.toNat 0 = vc at *; simp
theorem st18p {o A B C : Int} {m : List Int} (h : o = 18) (e : 0 ≤ m.getD B.toNat 0) (e2 : m.getD B.toNat 0 < C) : storeC ⟨o, A, B, C⟩ m = some (A, 1) := by
  subst h; simp only [storeC, twoC, truthC]; generalize m.getD B.toNat 0 = vb at *; generalize m.getD C.toNat 0 = vc at *; simp [e, e2]
theorem st18n {o A B C : Int} {m : List Int} (h : o = 18) (e : ¬ m.getD B.toNat 0 < C) : storeC ⟨o, A, B, C⟩ m = some (A, 0) := by
  subst h; simp only [storeC, twoC, truthC]; generalize m.getD B.toNat 0 = vb at *; generalize m.getD C.toNat 0 = vc at *; simp [e]
theorem st18m {o A B C : Int} {m : List Int} (h : o = 18) (e : ¬ 0 ≤ m.getD B.toNat 0) : storeC ⟨o, A, B, C⟩ m = some (A, 0) := by
  subst h; simp only [storeC, twoC, truthC]; generalize m.getD B.toNat 0 = vb at *; generalize m.getD C.toNat 0 = vc at *; simp [e]
theorem st3 {o A B C : Int} {m : List Int} {z : Int} (h : o = 3) (hz : z = IntKind.wrap .i32 (m.getD B.toNat 0 + m.getD C.toNat 0)) : storeC ⟨o, A, B, C⟩ m = some (A, z) := by
  subst h; subst hz; simp only [storeC, twoC, truthC]; generalize m.getD B.toNat 0 = vb at *; generalize m.getD C.toNat 0 = vc at *; simp
theorem st4 {o A B C : Int} {m : List Int} {z : Int} (h : o = 4) (hz : z = IntKind.wrap .i32 (m.getD B.toNat 0 - m.getD C.toNat 0)) : storeC ⟨o, A, B, C⟩ m = some (A, z) := by
  subst h; subst hz; simp only [storeC, twoC, truthC]; generalize m.getD B.toNat 0 = vb at *; generalize m.getD C.toNat 0 = vc at *; simp
theorem st5 {o A B C : Int} {m : List Int} {z : Int} (h : o = 5) (hz : z = IntKind.wrap .i32 (m.getD B.toNat 0 * m.getD C.toNat 0)) : storeC ⟨o, A, B, C⟩ m = some (A, z) := by
  subst h; subst hz; simp only [storeC, twoC, truthC]; generalize m.getD B.toNat 0 = vb at *; generalize m.getD C.toNat 0 = vc at *; simp
theorem st6z {o A B C : Int} {m : List Int} (h : o = 6) (e : m.getD C.toNat 0 = 0) : storeC ⟨o, A, B, C⟩ m = some (A, 0) := by
  subst h; simp only [storeC, twoC, truthC]; generalize m.getD B.toNat 0 = vb at *; generalize m.getD C.toNat 0 = vc at *; simp [e]
theorem st6n {o A B C : Int} {m : List Int} {z : Int} (h : o = 6) (e : ¬ m.getD C.toNat 0 = 0) (hz : z = IntKind.wrap .i32 (Int.tdiv (m.getD B.toNat 0) (m.getD C.toNat 0))) : storeC ⟨o, A, B, C⟩ m = some (A, z) := by
  subst h; subst hz; simp only [storeC, twoC, truthC]; generalize m.getD B.toNat 0 = vb at *; generalize m.getD C.toNat 0 = vc at *; simp [e]
theorem st7z {o A B C : Int} {m : List Int} (h : o = 7) (e : m.getD C.toNat 0 = 0) : storeC ⟨o, A, B, C⟩ m = some (A, 0) := by
  subst h; simp only [storeC, twoC, truthC]; generalize m.getD B.toNat 0 = vb at *; generalize m.getD C.toNat 0 = vc at *; simp [e]
theorem st7n {o A B C : Int} {m : List Int} {z : Int} (h : o = 7) (e : ¬ m.getD C.toNat 0 = 0) (hz : z = Int.tmod (m.getD B.toNat 0) (m.getD C.toNat 0)) : storeC ⟨o, A, B, C⟩ m = some (A, z) := by
  subst h; subst hz; simp only [storeC, twoC, truthC]; generalize m.getD B.toNat 0 = vb at *; generalize m.getD C.toNat 0 = vc at *; simp [e]
theorem st8p {o A B C : Int} {m : List Int} (h : o = 8) (e : m.getD B.toNat 0 = m.getD C.toNat 0) : storeC ⟨o, A, B, C⟩ m = some (A, 1) := by
  subst h; simp only [storeC, twoC, truthC]; generalize m.getD B.toNat 0 = vb at *; generalize m.getD C.toNat 0 = vc at *; simp [e]
theorem st8n {o A B C : Int} {m : List Int} (h : o = 8) (e : ¬ m.getD B.toNat 0 = m.getD C.toNat 0) : storeC ⟨o, A, B, C⟩ m = some (A, 0) := by
  subst h; simp only [storeC, twoC, truthC]; generalize m.getD B.toNat 0 = vb at *; generalize m.getD C.toNat 0 = vc at *; simp [e]
theorem st9p {o A B C : Int} {m : List Int} (h : o = 9) (e : m.getD B.toNat 0 ≠ m.getD C.toNat 0) : storeC ⟨o, A, B, C⟩ m = some (A, 1) := by
  subst h; simp only [storeC, twoC, truthC]; generalize m.getD B.toNat 0 = vb at *; generalize m.getD C.toNat 0 = vc at *; simp [e]
theorem st9n {o A B C : Int} {m : List Int} (h : o = 9) (e : ¬ m.getD B.toNat 0 ≠ m.getD C.toNat 0) : storeC ⟨o, A, B, C⟩ m = some (A, 0) := by
  subst h; simp only [storeC, twoC, truthC]; generalize m.getD B.toNat 0 = vb at *; generalize m.getD C.toNat 0 = vc at *; simp [e]
theorem st10p {o A B C : Int} {m : List Int} (h : o = 10) (e : m.getD B.toNat 0 < m.getD C.toNat 0) : storeC ⟨o, A, B, C⟩ m = some (A, 1) := by
  subst h; simp only [storeC, twoC, truthC]; generalize m.getD B.toNat 0 = vb at *; generalize m.getD C.toNat 0 = vc at *; simp [e]
theorem st10n {o A B C : Int} {m : List Int} (h : o = 10) (e : ¬ m.getD B.toNat 0 < m.getD C.toNat 0) : storeC ⟨o, A, B, C⟩ m = some (A, 0) := by
  subst h; simp only [storeC, twoC, truthC]; generalize m.getD B.toNat 0 = vb at *; generalize m.getD C.toNat 0 = vc at *; simp [e]
theorem st11p {o A B C : Int} {m : List Int} (h : o = 11) (e : m.getD B.toNat 0 ≤ m.getD C.toNat 0) : storeC ⟨o, A, B, C⟩ m = some (A, 1) := by
  subst h; simp only [storeC, twoC, truthC]; generalize m.getD B.toNat 0 = vb at *; generalize m.getD C.toNat 0 = vc at *; simp [e]
theorem st11n {o A B C : Int} {m : List Int} (h : o = 11) (e : ¬ m.getD B.toNat 0 ≤ m.getD C.toNat 0) : storeC ⟨o, A, B, C⟩ m = some (A, 0) := by
  subst h; simp only [storeC, twoC, truthC]; generalize m.getD B.toNat 0 = vb at *; generalize m.getD C.toNat 0 = vc at *; simp [e]
theorem st12p {o A B C : Int} {m : List Int} (h : o = 12) (e : m.getD B.toNat 0 ≠ 0) (e2 : m.getD C.toNat 0 ≠ 0) : storeC ⟨o, A, B, C⟩ m = some (A, 1) := by
  subst h; simp only [storeC, twoC, truthC]; generalize m.getD B.toNat 0 = vb at *; generalize m.getD C.toNat 0 = vc at *; simp [e, e2]
theorem st12n {o A B C : Int} {m : List Int} (h : o = 12) (e : ¬ m.getD C.toNat 0 ≠ 0) : storeC ⟨o, A, B, C⟩ m = some (A, 0) := by
  subst h; simp only [storeC, twoC, truthC]; generalize m.getD B.toNat 0 = vb at *; generalize m.getD C.toNat 0 = vc at *; simp [e]
theorem st12m {o A B C : Int} {m : List Int} (h : o = 12) (e : ¬ m.getD B.toNat 0 ≠ 0) : storeC ⟨o, A, B, C⟩ m = some (A, 0) := by
  subst h; simp only [storeC, twoC, truthC]; generalize m.getD B.toNat 0 = vb at *; generalize m.getD C.toNat 0 = vc at *; simp [e]
theorem st13p {o A B C : Int} {m : List Int} (h : o = 13) (e : m.getD B.toNat 0 ≠ 0) : storeC ⟨o, A, B, C⟩ m = some (A, 1) := by
  subst h; simp only [storeC, twoC, truthC]; generalize m.getD B.toNat 0 = vb at *; generalize m.getD C.toNat 0 = vc at *; simp [e]
theorem st13q {o A B C : Int} {m : List Int} (h : o = 13) (e : m.getD C.toNat 0 ≠ 0) : storeC ⟨o, A, B, C⟩ m = some (A, 1) := by
  subst h; simp only [storeC, twoC, truthC]; generalize m.getD B.toNat 0 = vb at *; generalize m.getD C.toNat 0 = vc at *; simp [e]
theorem st13n {o A B C : Int} {m : List Int} (h : o = 13) (e : ¬ m.getD B.toNat 0 ≠ 0) (e2 : ¬ m.getD C.toNat 0 ≠ 0) : storeC ⟨o, A, B, C⟩ m = some (A, 0) := by
  subst h; simp only [storeC, twoC, truthC]; generalize m.getD B.toNat 0 = vb at *; generalize m.getD C.toNat 0 = vc at *; simp [e, e2]
theorem stJ {o A B C : Int} {m : List Int} (h : o = 19 ∨ o = 20 ∨ o = 21) : storeC ⟨o, A, B, C⟩ m = none := by
  rcases h with h | h | h <;> subst h <;> simp [storeC]
theorem goN {o A B C g : Int} {s : MS} (h1 : o ≠ 19) (h2 : o ≠ 20) (h3 : o ≠ 21) (hp : 0 ≤ s.pc ∧ s.pc ≤ 2048) (e : g = IntKind.wrap .i64 (s.pc + 1)) : goalC ⟨o, A, B, C⟩ s = g := by
  rw [e, wrap_sm (by omega)]; simp [goalC, h1, h2, h3]
theorem go19 {o A B C : Int} {s : MS} (h : o = 19) : goalC ⟨o, A, B, C⟩ s = A := by subst h; simp [goalC]
theorem go20z {o A B C : Int} {s : MS} (h : o = 20) (e : s.mem.getD B.toNat 0 = 0) : goalC ⟨o, A, B, C⟩ s = A := by subst h; simp only [goalC]; rw [if_neg (by decide), if_pos trivial, if_pos e]
theorem go20n {o A B C g : Int} {s : MS} (h : o = 20) (e : ¬ s.mem.getD B.toNat 0 = 0) (hp : 0 ≤ s.pc ∧ s.pc ≤ 2048) (eg : g = IntKind.wrap .i64 (s.pc + 1)) : goalC ⟨o, A, B, C⟩ s = g := by
  rw [eg, wrap_sm (by omega)]; subst h; simp only [goalC]; rw [if_neg (by decide), if_pos trivial, if_neg e]
theorem go21z {o A B C g : Int} {s : MS} (h : o = 21) (e : s.mem.getD B.toNat 0 = 0) (hp : 0 ≤ s.pc ∧ s.pc ≤ 2048) (eg : g = IntKind.wrap .i64 (s.pc + 1)) : goalC ⟨o, A, B, C⟩ s = g := by
  rw [eg, wrap_sm (by omega)]; subst h; simp only [goalC]; rw [if_neg (by decide), if_neg (by decide), if_pos trivial, if_pos e]
theorem go21n {o A B C : Int} {s : MS} (h : o = 21) (e : ¬ s.mem.getD B.toNat 0 = 0) : goalC ⟨o, A, B, C⟩ s = A := by subst h; simp only [goalC]; rw [if_neg (by decide), if_neg (by decide), if_pos trivial, if_neg e]
theorem step_bad {cs : List Int} {s : MS} (h : ¬ okAt cs s) : stepC cs s = ⟨s.pc, s.mem, 2⟩ := by unfold stepC; simp only [if_pos h]
theorem step_far {cs : List Int} {s : MS} {i : Ins} (hok : okAt cs s) (hi : insAt cs s.pc.toNat = i) (h : farC i s.mem < 0 ∧ (i.op = 15 ∨ i.op = 16)) : stepC cs s = ⟨s.pc, s.mem, 2⟩ := by
  unfold stepC; simp only [hi]; rw [if_neg (not_not_intro hok), if_pos h]
theorem step_halt {cs : List Int} {s : MS} {i : Ins} (hok : okAt cs s) (hi : insAt cs s.pc.toNat = i) (h : i.op = 0) : stepC cs s = ⟨s.pc, s.mem, 1 + i.a⟩ := by
  unfold stepC; simp only [hi]; rw [if_neg (not_not_intro hok), if_neg (fun k => by rcases k.2 with e | e <;> rw [h] at e <;> exact absurd e (by decide)), if_pos h]
theorem step_st {cs : List Int} {s : MS} {o A B C i z g : Int} (hok : okAt cs s) (hi : insAt cs s.pc.toNat = ⟨o, A, B, C⟩) (hf : ¬ (farC ⟨o, A, B, C⟩ s.mem < 0 ∧ (o = 15 ∨ o = 16))) (h0 : o ≠ 0) (hst : storeC ⟨o, A, B, C⟩ s.mem = some (i, z)) (hg : goalC ⟨o, A, B, C⟩ s = g) : stepC cs s = ⟨g, s.mem.set i.toNat z, s.halt⟩ := by
  unfold stepC; simp only [hi]; rw [if_neg (not_not_intro hok), if_neg hf, if_neg h0, hst, hg]
theorem step_jp {cs : List Int} {s : MS} {o A B C g : Int} (hok : okAt cs s) (hi : insAt cs s.pc.toNat = ⟨o, A, B, C⟩) (h : o = 19 ∨ o = 20 ∨ o = 21) (hg : goalC ⟨o, A, B, C⟩ s = g) : stepC cs s = ⟨g, s.mem, s.halt⟩ := by
  unfold stepC; simp only [hi]; rw [if_neg (not_not_intro hok), if_neg (fun k => by have := k.2; omega), if_neg (by show ¬ o = 0; omega), stJ h, hg]
theorem farC_in {i : Ins} {m : List Int} (h : ¬ farC i m < 0) : 0 ≤ farC i m ∧ farC i m < m.length := by
  unfold farC at h ⊢
  simp only [] at h ⊢
  generalize (if i.op = 15 then IntKind.wrap .i64 (i.b + m.getD i.c.toNat 0) else if i.op = 16 then IntKind.wrap .i64 (i.a + m.getD i.b.toNat 0) else -1) = q at *
  by_cases hq : (m.length : Int) ≤ q
  · rw [if_pos hq] at h; omega
  · rw [if_neg hq] at h ⊢; omega
theorem regA {o A B C size words : Int} (h : rightP size words ⟨o, A, B, C⟩) (h0 : o ≠ 0) (h1 : o ≠ 19) (h2 : o ≠ 20) (h3 : o ≠ 21) : 0 ≤ A ∧ A < words := by
  obtain ⟨⟨k0, k1⟩, ⟨g, _, _⟩, _⟩ := h
  dsimp only at k0 k1 g
  have : o = 1 ∨ o = 2 ∨ o = 3 ∨ o = 4 ∨ o = 5 ∨ o = 6 ∨ o = 7 ∨ o = 8 ∨ o = 9 ∨ o = 10 ∨ o = 11 ∨ o = 12 ∨ o = 13 ∨ o = 14 ∨ o = 15 ∨ o = 16 ∨ o = 17 ∨ o = 18 := by omega
  rcases this with h | h | h | h | h | h | h | h | h | h | h | h | h | h | h | h | h | h <;> subst h <;> simpa [argP, hasC] using g
theorem regB {o A B C size words : Int} (h : rightP size words ⟨o, A, B, C⟩) (h0 : o ≠ 0) (h1 : o ≠ 1) (h2 : o ≠ 17) (h3 : o ≠ 19) : 0 ≤ B ∧ B < words := by
  obtain ⟨⟨k0, k1⟩, ⟨_, g, _⟩, _⟩ := h
  dsimp only at k0 k1 g
  have : o = 2 ∨ o = 3 ∨ o = 4 ∨ o = 5 ∨ o = 6 ∨ o = 7 ∨ o = 8 ∨ o = 9 ∨ o = 10 ∨ o = 11 ∨ o = 12 ∨ o = 13 ∨ o = 14 ∨ o = 15 ∨ o = 16 ∨ o = 18 ∨ o = 20 ∨ o = 21 := by omega
  rcases this with h | h | h | h | h | h | h | h | h | h | h | h | h | h | h | h | h | h <;> subst h <;> simpa [argP, hasC] using g
theorem regC {o A B C size words : Int} (h : rightP size words ⟨o, A, B, C⟩) (h0 : 3 ≤ o) (h1 : o ≤ 16) (h2 : o ≠ 14) : 0 ≤ C ∧ C < words := by
  obtain ⟨⟨k0, k1⟩, ⟨_, _, g⟩, _⟩ := h
  dsimp only at k0 k1 g
  have : o = 3 ∨ o = 4 ∨ o = 5 ∨ o = 6 ∨ o = 7 ∨ o = 8 ∨ o = 9 ∨ o = 10 ∨ o = 11 ∨ o = 12 ∨ o = 13 ∨ o = 15 ∨ o = 16 := by omega
  rcases this with h | h | h | h | h | h | h | h | h | h | h | h | h <;> subst h <;> simpa [argP, hasC] using g
end Go.Proofs.YtdjnipabfbblnaaGreatDoor
end
