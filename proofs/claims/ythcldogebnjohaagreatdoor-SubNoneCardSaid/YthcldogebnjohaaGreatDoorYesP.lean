/- Whether positions are the same: what is told of slices.Equal, of game.Same, of a position's digest is so. -/
import Derived.Test.YthcldogebnjohaaGreatDoorYsnP
import Derived.Test.YthcldogebnjohaaGreatDoorYdc
section
set_option maxRecDepth 100000
namespace Go.Proofs.YthcldogebnjohaaGreatDoor
open Go.Ev
set_option linter.unusedSectionVars false
variable [Go.Ev.Frozen Tryz.prog]
theorem vc_eqlsame (a : S2) (xs ys : List Int) : G_eqlsame a xs ys = (∀ (x0 : Int), x0 = (↑a.1.3 : Int) → ∀ (x1 : Int), x1 = (↑a.2.3 : Int) → (x0 ≠ x1 → ∃ (x2 : Unit), (∀ (x3 x4 : List Int), Sli (Value.int IntKind.i64) (1 : Nat) a.1.1 a.1.2 a.1.3
a.1.4 a.1.5 x3 → Sli (Value.int IntKind.i64) (1 : Nat) a.2.1 a.2.2 a.2.3 a.2.4 a.2.5 x4 → x3 ≠ x4) ∧ Bool.false = Bool.false ∧ True) ∧ (¬x0 ≠ x1 → ∀ (x5 : Int), x5 = (↑a.1.3 : Int)
→ ∃ (x6 : IL), (((0 : Int) ≤ x6.1 ∧ x6.1 ≤ (↑a.1.3 : Int)) ∧ List.take ((1 : Nat) * Int.toNat x6.1) xs = List.take ((1 : Nat) * Int.toNat x6.1) ys) ∧ (((a.1.1 = a.1.1 ∧ a.1.2 =
a.1.2 ∧ a.1.3 = a.1.3 ∧ a.1.4 = a.1.4) ∧ (a.2.1 = a.2.1 ∧ a.2.2 = a.2.2 ∧ a.2.3 = a.2.3 ∧ a.2.4 = a.2.4) ∧ (a.1.1 = a.1.1 ∧ a.1.2 = a.1.2 ∧ a.1.3 = a.1.3 ∧ a.1.4 = a.1.4) ∧ (↑a.1.3
: Int) = x5 ∧ x6.1 = (0 : Int) ∧ True) ∧ ((True ∧ FlatL a.1.5 ∧ a.1.5 = a.1.5) ∧ (True ∧ FlatL a.2.5 ∧ a.2.5 = a.2.5) ∧ True) ∧ True) ∧ ∀ (x7 : IL), ((0 : Int) ≤ x7.1 ∧ x7.1 ≤
(↑a.1.3 : Int)) ∧ List.take ((1 : Nat) * Int.toNat x7.1) xs = List.take ((1 : Nat) * Int.toNat x7.1) ys → (x7.1 < (↑a.1.3 : Int) → ((0 : Int) ≤ x7.1 ∧ x7.1 < (↑a.1.3 : Int)) ∧ ∀
(x8 : Nat), x8 = a.1.2 + Int.toNat x7.1 * (1 : Nat) → ∃ (x9 : Int), Rd a.1.5 (Nat.add x8 (0 : Nat)) (Value.int IntKind.i64 x9) ∧ ((0 : Int) ≤ x7.1 ∧ x7.1 < (↑a.2.3 : Int)) ∧ ∀ (x10
: Nat), x10 = a.2.2 + Int.toNat x7.1 * (1 : Nat) → ∃ (x11 : Int), Rd a.2.5 (Nat.add x10 (0 : Nat)) (Value.int IntKind.i64 x11) ∧ (x9 ≠ x11 → ∃ (x12 : Unit), (∀ (x13 x14 : List
Int), Sli (Value.int IntKind.i64) (1 : Nat) a.1.1 a.1.2 a.1.3 a.1.4 a.1.5 x13 → Sli (Value.int IntKind.i64) (1 : Nat) a.2.1 a.2.2 a.2.3 a.2.4 a.2.5 x14 → x13 ≠ x14) ∧ Bool.false =
Bool.false ∧ True) ∧ (¬x9 ≠ x11 → ∀ (x15 : Int), x15 = IntKind.wrap IntKind.i64 (x7.1 + (1 : Int)) → ∃ (x16 : IL), (((0 : Int) ≤ x16.1 ∧ x16.1 ≤ (↑a.1.3 : Int)) ∧ List.take ((1 :
Nat) * Int.toNat x16.1) xs = List.take ((1 : Nat) * Int.toNat x16.1) ys) ∧ Int.toNat ((↑a.1.3 : Int) - x16.1) < Int.toNat ((↑a.1.3 : Int) - x7.1) ∧ ((a.1.1 = a.1.1 ∧ a.1.2 = a.1.2
∧ a.1.3 = a.1.3 ∧ a.1.4 = a.1.4) ∧ (a.2.1 = a.2.1 ∧ a.2.2 = a.2.2 ∧ a.2.3 = a.2.3 ∧ a.2.4 = a.2.4) ∧ (a.1.1 = a.1.1 ∧ a.1.2 = a.1.2 ∧ a.1.3 = a.1.3 ∧ a.1.4 = a.1.4) ∧ (↑a.1.3 :
Int) = (↑a.1.3 : Int) ∧ x16.1 = x15 ∧ True) ∧ ((True ∧ FlatL a.1.5 ∧ a.1.5 = a.1.5) ∧ (True ∧ FlatL a.2.5 ∧ a.2.5 = a.2.5) ∧ True) ∧ True)) ∧ (¬x7.1 < (↑a.1.3 : Int) → ∃ (x17 :
Unit), (∀ (x18 x19 : List Int), Sli (Value.int IntKind.i64) (1 : Nat) a.1.1 a.1.2 a.1.3 a.1.4 a.1.5 x18 → Sli (Value.int IntKind.i64) (1 : Nat) a.2.1 a.2.2 a.2.3 a.2.4 a.2.5 x19 →
x18 = x19) ∧ Bool.true = Bool.true ∧ True))) := by kernel_rfl
theorem vc_eqi32 (a : S2) (xs ys : List Int) : G_eqi32 a xs ys = (∀ (x0 : Int), x0 = (↑a.1.3 : Int) → ∀ (x1 : Int), x1 = (↑a.2.3 : Int) → (x0 ≠ x1 → ∃ (x2 : Unit), (∀ (x3 x4 : List Int), Sli (Value.int IntKind.i32) (1 : Nat) a.1.1 a.1.2 a.1.3
a.1.4 a.1.5 x3 → Sli (Value.int IntKind.i32) (1 : Nat) a.2.1 a.2.2 a.2.3 a.2.4 a.2.5 x4 → x3 ≠ x4) ∧ Bool.false = Bool.false ∧ True) ∧ (¬x0 ≠ x1 → ∀ (x5 : Int), x5 = (↑a.1.3 : Int)
→ ∃ (x6 : IL), (((0 : Int) ≤ x6.1 ∧ x6.1 ≤ (↑a.1.3 : Int)) ∧ List.take ((1 : Nat) * Int.toNat x6.1) xs = List.take ((1 : Nat) * Int.toNat x6.1) ys) ∧ (((a.1.1 = a.1.1 ∧ a.1.2 =
a.1.2 ∧ a.1.3 = a.1.3 ∧ a.1.4 = a.1.4) ∧ (a.2.1 = a.2.1 ∧ a.2.2 = a.2.2 ∧ a.2.3 = a.2.3 ∧ a.2.4 = a.2.4) ∧ (↑a.1.3 : Int) = x5 ∧ x6.1 = (0 : Int) ∧ True) ∧ ((True ∧ FlatL a.1.5 ∧
a.1.5 = a.1.5) ∧ (True ∧ FlatL a.2.5 ∧ a.2.5 = a.2.5) ∧ True) ∧ True) ∧ ∀ (x7 : IL), ((0 : Int) ≤ x7.1 ∧ x7.1 ≤ (↑a.1.3 : Int)) ∧ List.take ((1 : Nat) * Int.toNat x7.1) xs =
List.take ((1 : Nat) * Int.toNat x7.1) ys → (x7.1 < (↑a.1.3 : Int) → ((0 : Int) ≤ x7.1 ∧ x7.1 < (↑a.1.3 : Int)) ∧ ∀ (x8 : Nat), x8 = a.1.2 + Int.toNat x7.1 * (1 : Nat) → ∃ (x9 :
Int), Rd a.1.5 (Nat.add x8 (0 : Nat)) (Value.int IntKind.i32 x9) ∧ ((0 : Int) ≤ x7.1 ∧ x7.1 < (↑a.2.3 : Int)) ∧ ∀ (x10 : Nat), x10 = a.2.2 + Int.toNat x7.1 * (1 : Nat) → ∃ (x11 :
Int), Rd a.2.5 (Nat.add x10 (0 : Nat)) (Value.int IntKind.i32 x11) ∧ (x9 ≠ x11 → (True ∧ True ∧ True ∧ True ∧ True ∧ True ∧ True ∧ True ∧ True ∧ True) ∧ ∃ (x12 : Unit), (∀ (x13 x14
: List Int), Sli (Value.int IntKind.i32) (1 : Nat) a.1.1 a.1.2 a.1.3 a.1.4 a.1.5 x13 → Sli (Value.int IntKind.i32) (1 : Nat) a.2.1 a.2.2 a.2.3 a.2.4 a.2.5 x14 → x13 ≠ x14) ∧
Bool.false = Bool.false ∧ True) ∧ (¬x9 ≠ x11 → (True ∧ True ∧ True ∧ True ∧ True ∧ True ∧ True ∧ True ∧ True ∧ True) ∧ ∀ (x15 : Int), x15 = IntKind.wrap IntKind.i64 (x7.1 + (1 :
Int)) → ∃ (x16 : IL), (((0 : Int) ≤ x16.1 ∧ x16.1 ≤ (↑a.1.3 : Int)) ∧ List.take ((1 : Nat) * Int.toNat x16.1) xs = List.take ((1 : Nat) * Int.toNat x16.1) ys) ∧ Int.toNat ((↑a.1.3
: Int) - x16.1) < Int.toNat ((↑a.1.3 : Int) - x7.1) ∧ ((a.1.1 = a.1.1 ∧ a.1.2 = a.1.2 ∧ a.1.3 = a.1.3 ∧ a.1.4 = a.1.4) ∧ (a.2.1 = a.2.1 ∧ a.2.2 = a.2.2 ∧ a.2.3 = a.2.3 ∧ a.2.4 =
a.2.4) ∧ (↑a.1.3 : Int) = (↑a.1.3 : Int) ∧ x16.1 = x15 ∧ True) ∧ ((True ∧ FlatL a.1.5 ∧ a.1.5 = a.1.5) ∧ (True ∧ FlatL a.2.5 ∧ a.2.5 = a.2.5) ∧ True) ∧ True)) ∧ (¬x7.1 < (↑a.1.3 :
Int) → ∃ (x17 : Unit), (∀ (x18 x19 : List Int), Sli (Value.int IntKind.i32) (1 : Nat) a.1.1 a.1.2 a.1.3 a.1.4 a.1.5 x18 → Sli (Value.int IntKind.i32) (1 : Nat) a.2.1 a.2.2 a.2.3
a.2.4 a.2.5 x19 → x18 = x19) ∧ Bool.true = Bool.true ∧ True))) := by kernel_rfl
theorem vc_eqbool (a : S2) (xs ys : List Bool) : G_eqbool a xs ys = (∀ (x0 : Int), x0 = (↑a.1.3 : Int) → ∀ (x1 : Int), x1 = (↑a.2.3 : Int) → (x0 ≠ x1 → ∃ (x2 : Unit), (∀ (x3 x4 : List Bool), Sli Value.bool (1 : Nat) a.1.1 a.1.2 a.1.3 a.1.4 a.1.5 x3
→ Sli Value.bool (1 : Nat) a.2.1 a.2.2 a.2.3 a.2.4 a.2.5 x4 → x3 ≠ x4) ∧ Bool.false = Bool.false ∧ True) ∧ (¬x0 ≠ x1 → ∀ (x5 : Int), x5 = (↑a.1.3 : Int) → ∃ (x6 : IL), (((0 : Int)
≤ x6.1 ∧ x6.1 ≤ (↑a.1.3 : Int)) ∧ List.take ((1 : Nat) * Int.toNat x6.1) xs = List.take ((1 : Nat) * Int.toNat x6.1) ys) ∧ (((a.1.1 = a.1.1 ∧ a.1.2 = a.1.2 ∧ a.1.3 = a.1.3 ∧ a.1.4
= a.1.4) ∧ (a.2.1 = a.2.1 ∧ a.2.2 = a.2.2 ∧ a.2.3 = a.2.3 ∧ a.2.4 = a.2.4) ∧ (↑a.1.3 : Int) = x5 ∧ x6.1 = (0 : Int) ∧ True) ∧ ((True ∧ FlatL a.1.5 ∧ a.1.5 = a.1.5) ∧ (True ∧ FlatL
a.2.5 ∧ a.2.5 = a.2.5) ∧ True) ∧ True) ∧ ∀ (x7 : IL), ((0 : Int) ≤ x7.1 ∧ x7.1 ≤ (↑a.1.3 : Int)) ∧ List.take ((1 : Nat) * Int.toNat x7.1) xs = List.take ((1 : Nat) * Int.toNat
x7.1) ys → (x7.1 < (↑a.1.3 : Int) → ((0 : Int) ≤ x7.1 ∧ x7.1 < (↑a.1.3 : Int)) ∧ ∀ (x8 : Nat), x8 = a.1.2 + Int.toNat x7.1 * (1 : Nat) → ∃ (x9 : Bool), Rd a.1.5 (Nat.add x8 (0 :
Nat)) (Value.bool x9) ∧ ((0 : Int) ≤ x7.1 ∧ x7.1 < (↑a.2.3 : Int)) ∧ ∀ (x10 : Nat), x10 = a.2.2 + Int.toNat x7.1 * (1 : Nat) → ∃ (x11 : Bool), Rd a.2.5 (Nat.add x10 (0 : Nat))
(Value.bool x11) ∧ (x9 ≠ x11 → (True ∧ True ∧ True ∧ True ∧ True ∧ True ∧ True ∧ True ∧ True ∧ True) ∧ ∃ (x12 : Unit), (∀ (x13 x14 : List Bool), Sli Value.bool (1 : Nat) a.1.1
a.1.2 a.1.3 a.1.4 a.1.5 x13 → Sli Value.bool (1 : Nat) a.2.1 a.2.2 a.2.3 a.2.4 a.2.5 x14 → x13 ≠ x14) ∧ Bool.false = Bool.false ∧ True) ∧ (¬x9 ≠ x11 → (True ∧ True ∧ True ∧ True ∧
True ∧ True ∧ True ∧ True ∧ True ∧ True) ∧ ∀ (x15 : Int), x15 = IntKind.wrap IntKind.i64 (x7.1 + (1 : Int)) → ∃ (x16 : IL), (((0 : Int) ≤ x16.1 ∧ x16.1 ≤ (↑a.1.3 : Int)) ∧
List.take ((1 : Nat) * Int.toNat x16.1) xs = List.take ((1 : Nat) * Int.toNat x16.1) ys) ∧ Int.toNat ((↑a.1.3 : Int) - x16.1) < Int.toNat ((↑a.1.3 : Int) - x7.1) ∧ ((a.1.1 = a.1.1
∧ a.1.2 = a.1.2 ∧ a.1.3 = a.1.3 ∧ a.1.4 = a.1.4) ∧ (a.2.1 = a.2.1 ∧ a.2.2 = a.2.2 ∧ a.2.3 = a.2.3 ∧ a.2.4 = a.2.4) ∧ (↑a.1.3 : Int) = (↑a.1.3 : Int) ∧ x16.1 = x15 ∧ True) ∧ ((True
∧ FlatL a.1.5 ∧ a.1.5 = a.1.5) ∧ (True ∧ FlatL a.2.5 ∧ a.2.5 = a.2.5) ∧ True) ∧ True)) ∧ (¬x7.1 < (↑a.1.3 : Int) → ∃ (x17 : Unit), (∀ (x18 x19 : List Bool), Sli Value.bool (1 :
Nat) a.1.1 a.1.2 a.1.3 a.1.4 a.1.5 x18 → Sli Value.bool (1 : Nat) a.2.1 a.2.2 a.2.3 a.2.4 a.2.5 x19 → x18 = x19) ∧ Bool.true = Bool.true ∧ True))) := by kernel_rfl
theorem vc_eqdig (a : S2) (xs ys : List Int) : G_eqdig a xs ys = (∀ (x0 : Int), x0 = (↑a.1.3 : Int) → ∀ (x1 : Int), x1 = (↑a.2.3 : Int) → (x0 ≠ x1 → ∃ (x2 : Unit), (∀ (x3 x4 : List Int), Sli (Value.int IntKind.u8) (8 : Nat) a.1.1 a.1.2 a.1.3
a.1.4 a.1.5 x3 → Sli (Value.int IntKind.u8) (8 : Nat) a.2.1 a.2.2 a.2.3 a.2.4 a.2.5 x4 → x3 ≠ x4) ∧ Bool.false = Bool.false ∧ True) ∧ (¬x0 ≠ x1 → ∀ (x5 : Int), x5 = (↑a.1.3 : Int)
→ ∃ (x6 : IL), (((0 : Int) ≤ x6.1 ∧ x6.1 ≤ (↑a.1.3 : Int)) ∧ List.take ((8 : Nat) * Int.toNat x6.1) xs = List.take ((8 : Nat) * Int.toNat x6.1) ys) ∧ (((a.1.1 = a.1.1 ∧ a.1.2 =
a.1.2 ∧ a.1.3 = a.1.3 ∧ a.1.4 = a.1.4) ∧ (a.2.1 = a.2.1 ∧ a.2.2 = a.2.2 ∧ a.2.3 = a.2.3 ∧ a.2.4 = a.2.4) ∧ (↑a.1.3 : Int) = x5 ∧ x6.1 = (0 : Int) ∧ True) ∧ ((True ∧ FlatL a.1.5 ∧
a.1.5 = a.1.5) ∧ (True ∧ FlatL a.2.5 ∧ a.2.5 = a.2.5) ∧ True) ∧ True) ∧ ∀ (x7 : IL), ((0 : Int) ≤ x7.1 ∧ x7.1 ≤ (↑a.1.3 : Int)) ∧ List.take ((8 : Nat) * Int.toNat x7.1) xs =
List.take ((8 : Nat) * Int.toNat x7.1) ys → (x7.1 < (↑a.1.3 : Int) → ((0 : Int) ≤ x7.1 ∧ x7.1 < (↑a.1.3 : Int)) ∧ ∀ (x8 : Nat), x8 = a.1.2 + Int.toNat x7.1 * (8 : Nat) → ∃ (x9 :
Int), Rd a.1.5 (Nat.add x8 (0 : Nat)) (Value.int IntKind.u8 x9) ∧ ∃ (x10 : Int), Rd a.1.5 (Nat.add x8 (1 : Nat)) (Value.int IntKind.u8 x10) ∧ ∃ (x11 : Int), Rd a.1.5 (Nat.add x8 (2
: Nat)) (Value.int IntKind.u8 x11) ∧ ∃ (x12 : Int), Rd a.1.5 (Nat.add x8 (3 : Nat)) (Value.int IntKind.u8 x12) ∧ ∃ (x13 : Int), Rd a.1.5 (Nat.add x8 (4 : Nat)) (Value.int
IntKind.u8 x13) ∧ ∃ (x14 : Int), Rd a.1.5 (Nat.add x8 (5 : Nat)) (Value.int IntKind.u8 x14) ∧ ∃ (x15 : Int), Rd a.1.5 (Nat.add x8 (6 : Nat)) (Value.int IntKind.u8 x15) ∧ ∃ (x16 :
Int), Rd a.1.5 (Nat.add x8 (7 : Nat)) (Value.int IntKind.u8 x16) ∧ ((0 : Int) ≤ x7.1 ∧ x7.1 < (↑a.2.3 : Int)) ∧ ∀ (x17 : Nat), x17 = a.2.2 + Int.toNat x7.1 * (8 : Nat) → ∃ (x18 :
Int), Rd a.2.5 (Nat.add x17 (0 : Nat)) (Value.int IntKind.u8 x18) ∧ ∃ (x19 : Int), Rd a.2.5 (Nat.add x17 (1 : Nat)) (Value.int IntKind.u8 x19) ∧ ∃ (x20 : Int), Rd a.2.5 (Nat.add
x17 (2 : Nat)) (Value.int IntKind.u8 x20) ∧ ∃ (x21 : Int), Rd a.2.5 (Nat.add x17 (3 : Nat)) (Value.int IntKind.u8 x21) ∧ ∃ (x22 : Int), Rd a.2.5 (Nat.add x17 (4 : Nat)) (Value.int
IntKind.u8 x22) ∧ ∃ (x23 : Int), Rd a.2.5 (Nat.add x17 (5 : Nat)) (Value.int IntKind.u8 x23) ∧ ∃ (x24 : Int), Rd a.2.5 (Nat.add x17 (6 : Nat)) (Value.int IntKind.u8 x24) ∧ ∃ (x25 :
Int), Rd a.2.5 (Nat.add x17 (7 : Nat)) (Value.int IntKind.u8 x25) ∧ (¬(x9 = x18 ∧ x10 = x19 ∧ x11 = x20 ∧ x12 = x21 ∧ x13 = x22 ∧ x14 = x23 ∧ x15 = x24 ∧ x16 = x25 ∧ True) → (True
∧ True ∧ True ∧ True ∧ True ∧ True ∧ True ∧ True ∧ True ∧ True) ∧ ∃ (x26 : Unit), (∀ (x27 x28 : List Int), Sli (Value.int IntKind.u8) (8 : Nat) a.1.1 a.1.2 a.1.3 a.1.4 a.1.5 x27 →
Sli (Value.int IntKind.u8) (8 : Nat) a.2.1 a.2.2 a.2.3 a.2.4 a.2.5 x28 → x27 ≠ x28) ∧ Bool.false = Bool.false ∧ True) ∧ (x9 = x18 ∧ x10 = x19 ∧ x11 = x20 ∧ x12 = x21 ∧ x13 = x22 ∧
x14 = x23 ∧ x15 = x24 ∧ x16 = x25 ∧ True → (True ∧ True ∧ True ∧ True ∧ True ∧ True ∧ True ∧ True ∧ True ∧ True) ∧ ∀ (x29 : Int), x29 = IntKind.wrap IntKind.i64 (x7.1 + (1 : Int))
→ ∃ (x30 : IL), (((0 : Int) ≤ x30.1 ∧ x30.1 ≤ (↑a.1.3 : Int)) ∧ List.take ((8 : Nat) * Int.toNat x30.1) xs = List.take ((8 : Nat) * Int.toNat x30.1) ys) ∧ Int.toNat ((↑a.1.3 : Int)
- x30.1) < Int.toNat ((↑a.1.3 : Int) - x7.1) ∧ ((a.1.1 = a.1.1 ∧ a.1.2 = a.1.2 ∧ a.1.3 = a.1.3 ∧ a.1.4 = a.1.4) ∧ (a.2.1 = a.2.1 ∧ a.2.2 = a.2.2 ∧ a.2.3 = a.2.3 ∧ a.2.4 = a.2.4) ∧
(↑a.1.3 : Int) = (↑a.1.3 : Int) ∧ x30.1 = x29 ∧ True) ∧ ((True ∧ FlatL a.1.5 ∧ a.1.5 = a.1.5) ∧ (True ∧ FlatL a.2.5 ∧ a.2.5 = a.2.5) ∧ True) ∧ True)) ∧ (¬x7.1 < (↑a.1.3 : Int) → ∃
(x31 : Unit), (∀ (x32 x33 : List Int), Sli (Value.int IntKind.u8) (8 : Nat) a.1.1 a.1.2 a.1.3 a.1.4 a.1.5 x32 → Sli (Value.int IntKind.u8) (8 : Nat) a.2.1 a.2.2 a.2.3 a.2.4 a.2.5
x33 → x32 = x33) ∧ Bool.true = Bool.true ∧ True))) := by kernel_rfl
theorem vc_gsame (a : P2G) : G_gsame a = ((True ∧ (∃ (x0 : List Int), ∃ (x1 : List Int), Sli (Value.int IntKind.i32) (1 : Nat) a.1.1.1 a.1.1.2 a.1.1.3 a.1.1.4 a.1.1.5 x0 ∧ Sli (Value.int IntKind.i32) (1 : Nat) a.2.1.1
a.2.1.2 a.2.1.3 a.2.1.4 a.2.1.5 x1) ∧ a.1.1.3 ≤ (1000000 : Nat) ∧ a.2.1.3 ≤ (1000000 : Nat)) ∧ (((a.1.1.1 = a.1.1.1 ∧ a.1.1.2 = a.1.1.2 ∧ a.1.1.3 = a.1.1.3 ∧ a.1.1.4 = a.1.1.4) ∧
(a.2.1.1 = a.2.1.1 ∧ a.2.1.2 = a.2.1.2 ∧ a.2.1.3 = a.2.1.3 ∧ a.2.1.4 = a.2.1.4) ∧ True) ∧ (True ∧ FlatL a.1.1.5 ∧ a.1.1.5 = a.1.1.5) ∧ (True ∧ FlatL a.2.1.5 ∧ a.2.1.5 = a.2.1.5) ∧
True) ∧ (∀ (x2 : Unit), (∀ (x3 x4 : List Int), Sli (Value.int IntKind.i32) (1 : Nat) a.1.1.1 a.1.1.2 a.1.1.3 a.1.1.4 a.1.1.5 x3 → Sli (Value.int IntKind.i32) (1 : Nat) a.2.1.1
a.2.1.2 a.2.1.3 a.2.1.4 a.2.1.5 x4 → x3 = x4) → (True ∧ (∃ (x5 : List Bool), ∃ (x6 : List Bool), Sli Value.bool (1 : Nat) a.1.2.1 a.1.2.2 a.1.2.3 a.1.2.4 a.1.2.5 x5 ∧ Sli
Value.bool (1 : Nat) a.2.2.1 a.2.2.2 a.2.2.3 a.2.2.4 a.2.2.5 x6) ∧ a.1.2.3 ≤ (1000000 : Nat) ∧ a.2.2.3 ≤ (1000000 : Nat)) ∧ (((a.1.2.1 = a.1.2.1 ∧ a.1.2.2 = a.1.2.2 ∧ a.1.2.3 =
a.1.2.3 ∧ a.1.2.4 = a.1.2.4) ∧ (a.2.2.1 = a.2.2.1 ∧ a.2.2.2 = a.2.2.2 ∧ a.2.2.3 = a.2.2.3 ∧ a.2.2.4 = a.2.2.4) ∧ True) ∧ (True ∧ FlatL a.1.2.5 ∧ a.1.2.5 = a.1.2.5) ∧ (True ∧ FlatL
a.2.2.5 ∧ a.2.2.5 = a.2.2.5) ∧ True) ∧ (∀ (x7 : Unit), (∀ (x8 x9 : List Bool), Sli Value.bool (1 : Nat) a.1.2.1 a.1.2.2 a.1.2.3 a.1.2.4 a.1.2.5 x8 → Sli Value.bool (1 : Nat)
a.2.2.1 a.2.2.2 a.2.2.3 a.2.2.4 a.2.2.5 x9 → x8 = x9) → (True ∧ (∃ (x10 : List Int), ∃ (x11 : List Int), Sli (Value.int IntKind.u8) (8 : Nat) a.1.3.1 a.1.3.2 a.1.3.3 a.1.3.4
a.1.3.5 x10 ∧ Sli (Value.int IntKind.u8) (8 : Nat) a.2.3.1 a.2.3.2 a.2.3.3 a.2.3.4 a.2.3.5 x11) ∧ a.1.3.3 ≤ (1000000 : Nat) ∧ a.2.3.3 ≤ (1000000 : Nat)) ∧ (((a.1.3.1 = a.1.3.1 ∧
a.1.3.2 = a.1.3.2 ∧ a.1.3.3 = a.1.3.3 ∧ a.1.3.4 = a.1.3.4) ∧ (a.2.3.1 = a.2.3.1 ∧ a.2.3.2 = a.2.3.2 ∧ a.2.3.3 = a.2.3.3 ∧ a.2.3.4 = a.2.3.4) ∧ True) ∧ (True ∧ FlatL a.1.3.5 ∧
a.1.3.5 = a.1.3.5) ∧ (True ∧ FlatL a.2.3.5 ∧ a.2.3.5 = a.2.3.5) ∧ True) ∧ (∀ (x12 : Unit), (∀ (x13 x14 : List Int), Sli (Value.int IntKind.u8) (8 : Nat) a.1.3.1 a.1.3.2 a.1.3.3
a.1.3.4 a.1.3.5 x13 → Sli (Value.int IntKind.u8) (8 : Nat) a.2.3.1 a.2.3.2 a.2.3.3 a.2.3.4 a.2.3.5 x14 → x13 = x14) → (a.1.4 = a.2.4 ∧ a.1.5 = a.2.5 ∧ a.1.6 = a.2.6 ∧ a.1.7 = a.2.7
∧ a.1.8 = a.2.8 ∧ True → ∃ (x15 : BL), (∀ (x16 x17 : PX), PH a.1 x16 → PH a.2 x17 → (x15.1 = Bool.true ↔ x16 = x17 ∧ RollsEq a.1 a.2)) ∧ x15.1 = Bool.true ∧ True) ∧ (¬(a.1.4 =
a.2.4 ∧ a.1.5 = a.2.5 ∧ a.1.6 = a.2.6 ∧ a.1.7 = a.2.7 ∧ a.1.8 = a.2.8 ∧ True) → ∃ (x18 : BL), (∀ (x19 x20 : PX), PH a.1 x19 → PH a.2 x20 → (x18.1 = Bool.true ↔ x19 = x20 ∧ RollsEq
a.1 a.2)) ∧ x18.1 = Bool.false ∧ True)) ∧ (∀ (x21 : Unit), (∀ (x22 x23 : List Int), Sli (Value.int IntKind.u8) (8 : Nat) a.1.3.1 a.1.3.2 a.1.3.3 a.1.3.4 a.1.3.5 x22 → Sli
(Value.int IntKind.u8) (8 : Nat) a.2.3.1 a.2.3.2 a.2.3.3 a.2.3.4 a.2.3.5 x23 → x22 ≠ x23) → ∃ (x24 : BL), (∀ (x25 x26 : PX), PH a.1 x25 → PH a.2 x26 → (x24.1 = Bool.true ↔ x25 =
x26 ∧ RollsEq a.1 a.2)) ∧ x24.1 = Bool.false ∧ True) ∧ True) ∧ (∀ (x27 : Unit), (∀ (x28 x29 : List Bool), Sli Value.bool (1 : Nat) a.1.2.1 a.1.2.2 a.1.2.3 a.1.2.4 a.1.2.5 x28 → Sli
Value.bool (1 : Nat) a.2.2.1 a.2.2.2 a.2.2.3 a.2.2.4 a.2.2.5 x29 → x28 ≠ x29) → ∃ (x30 : BL), (∀ (x31 x32 : PX), PH a.1 x31 → PH a.2 x32 → (x30.1 = Bool.true ↔ x31 = x32 ∧ RollsEq
a.1 a.2)) ∧ x30.1 = Bool.false ∧ True) ∧ True) ∧ (∀ (x33 : Unit), (∀ (x34 x35 : List Int), Sli (Value.int IntKind.i32) (1 : Nat) a.1.1.1 a.1.1.2 a.1.1.3 a.1.1.4 a.1.1.5 x34 → Sli
(Value.int IntKind.i32) (1 : Nat) a.2.1.1 a.2.1.2 a.2.1.3 a.2.1.4 a.2.1.5 x35 → x34 ≠ x35) → ∃ (x36 : BL), (∀ (x37 x38 : PX), PH a.1 x37 → PH a.2 x38 → (x36.1 = Bool.true ↔ x37 =
x38 ∧ RollsEq a.1 a.2)) ∧ x36.1 = Bool.false ∧ True) ∧ True) := by kernel_rfl
theorem take_succ_eqG {α : Type} {xs ys : List α} {i : Nat} (h : xs.take i = ys.take i) (h1 : i < xs.length) (h2 : i < ys.length) (he : xs[i] = ys[i]) : xs.take (i + 1) = ys.take (i + 1) := by
  rw [List.take_succ_eq_append_getElem h1, List.take_succ_eq_append_getElem h2, h, he]
theorem g_eqlsame (a : S2) (xs ys : List Int) (hx : Sli (Value.int .i64) 1 a.a.n a.a.o a.a.l a.a.k a.a.c xs) (hy : Sli (Value.int .i64) 1 a.b.n a.b.o a.b.l a.b.k a.b.c ys) (b1 : a.a.l ≤ 1000000) (b2 : a.b.l ≤ 1000000) : G_eqlsame a xs ys := by
  have lx := hx.len
  have ly := hy.len
  have fx := hx.flat
  have fy := hy.flat
  rw [vc_eqlsame]
  intro x0 e0 x1 e1
  refine ⟨fun hne => ⟨(), fun u v hu hv h => ?_, rfl, trivial⟩, fun heq x5 e5 => ?_⟩
  · have := hu.len; have := hv.len; subst h; omega
  have e01 : a.a.l = a.b.l := by omega
  refine ⟨⟨0⟩, ⟨⟨by decide, by simp⟩, by simp⟩, ?_, ?_⟩
  · have e5 := e5.symm
    repeat' first | with_reducible apply And.intro | exact trivial | exact rfl | assumption
  rintro ⟨i⟩ ⟨⟨hi0, hi1⟩, ht⟩
  dsimp only at hi0 hi1 ht ⊢
  rw [Nat.one_mul] at ht
  refine ⟨fun hlt => ?_, fun hge => ?_⟩
  · have h1 : i.toNat < xs.length := by omega
    have h2 : i.toNat < ys.length := by omega
    refine ⟨⟨hi0, by omega⟩, fun p hp => ⟨xs[i.toNat], by rw [hp, Nat.mul_one]; exact hx.at_.get h1, ⟨hi0, by omega⟩, fun q hq => ⟨ys[i.toNat], by rw [hq, Nat.mul_one]; exact hy.at_.get h2, fun hne => ⟨(), fun u v hu hv h => ?_, rfl, trivial⟩, fun hee z hz => ?_⟩⟩⟩
    · exfalso
      have e1 := Sli.uniqI hu hx
      have e2 := Sli.uniqI hv hy
      subst e1 e2
      apply hne
      subst h
      rfl
    · rw [wrap_i64] at hz
      have hz' : z.toNat = i.toNat + 1 := by omega
      refine ⟨⟨z⟩, ⟨⟨by show 0 ≤ z; omega, by show z ≤ _; omega⟩, by (show xs.take (1 * z.toNat) = ys.take (1 * z.toNat)); rw [Nat.one_mul, hz']; exact take_succ_eqG ht h1 h2 (Classical.byContradiction hee)⟩, by show ((a.a.l : Int) - z).toNat < ((a.a.l : Int) - i).toNat; omega, ?_⟩
      repeat' first | with_reducible apply And.intro | exact trivial | exact rfl | assumption
  · refine ⟨(), fun u v hu hv => ?_, rfl, trivial⟩
    have e1 := Sli.uniqI hu hx
    have e2 := Sli.uniqI hv hy
    subst e1 e2
    rw [List.take_of_length_le (by omega), List.take_of_length_le (by omega)] at ht
    exact ht
theorem s_eqlsame : SpecOK Tryz.prog S_eqlsame.spec := fun a K hp hq => by
  obtain ⟨⟨xs, ys, hx, hy⟩, b1, b2⟩ := hp
  exact specD_at (an := [some (la_eqlsame a xs ys)]) envOK cw0_ok (fun _ => g_eqlsame a xs ys hx hy b1 b2) K ⟨⟨xs, ys, hx, hy⟩, b1, b2⟩ hq
theorem g_eqi32 (a : S2) (xs ys : List Int) (hx : Sli (Value.int .i32) 1 a.a.n a.a.o a.a.l a.a.k a.a.c xs) (hy : Sli (Value.int .i32) 1 a.b.n a.b.o a.b.l a.b.k a.b.c ys) (b1 : a.a.l ≤ 1000000) (b2 : a.b.l ≤ 1000000) : G_eqi32 a xs ys := by
  have lx := hx.len
  have ly := hy.len
  have fx := hx.flat
  have fy := hy.flat
  rw [vc_eqi32]
  intro x0 e0 x1 e1
  refine ⟨fun hne => ⟨(), fun u v hu hv h => ?_, rfl, trivial⟩, fun heq x5 e5 => ?_⟩
  · have := hu.len; have := hv.len; subst h; omega
  have e01 : a.a.l = a.b.l := by omega
  refine ⟨⟨0⟩, ⟨⟨by decide, by simp⟩, by simp⟩, ?_, ?_⟩
  · have e5 := e5.symm
    repeat' first | with_reducible apply And.intro | exact trivial | exact rfl | assumption
  rintro ⟨i⟩ ⟨⟨hi0, hi1⟩, ht⟩
  dsimp only at hi0 hi1 ht ⊢
  rw [Nat.one_mul] at ht
  refine ⟨fun hlt => ?_, fun hge => ?_⟩
  · have h1 : i.toNat < xs.length := by omega
    have h2 : i.toNat < ys.length := by omega
    refine ⟨⟨hi0, by omega⟩, fun p hp => ⟨xs[i.toNat], by rw [hp, Nat.mul_one]; exact hx.at_.get h1, ⟨hi0, by omega⟩, fun q hq => ⟨ys[i.toNat], by rw [hq, Nat.mul_one]; exact hy.at_.get h2, fun hne => ⟨?_, (), fun u v hu hv h => ?_, rfl, trivial⟩, fun hee => ⟨?_, fun z hz => ?_⟩⟩⟩⟩
    · repeat' first | with_reducible apply And.intro | exact trivial | exact rfl | assumption
    · exfalso
      have e1 := Sli.uniqI hu hx
      have e2 := Sli.uniqI hv hy
      subst e1 e2
      apply hne
      subst h
      rfl
    · repeat' first | with_reducible apply And.intro | exact trivial | exact rfl | assumption
    · rw [wrap_i64] at hz
      have hz' : z.toNat = i.toNat + 1 := by omega
      refine ⟨⟨z⟩, ⟨⟨by show 0 ≤ z; omega, by show z ≤ _; omega⟩, by (show xs.take (1 * z.toNat) = ys.take (1 * z.toNat)); rw [Nat.one_mul, hz']; exact take_succ_eqG ht h1 h2 (Classical.byContradiction hee)⟩, by show ((a.a.l : Int) - z).toNat < ((a.a.l : Int) - i).toNat; omega, ?_⟩
      repeat' first | with_reducible apply And.intro | exact trivial | exact rfl | assumption
  · refine ⟨(), fun u v hu hv => ?_, rfl, trivial⟩
    have e1 := Sli.uniqI hu hx
    have e2 := Sli.uniqI hv hy
    subst e1 e2
    rw [List.take_of_length_le (by omega), List.take_of_length_le (by omega)] at ht
    exact ht
theorem s_eqi32 : SpecOK Tryz.prog S_eqi32.spec := fun a K hp hq => by
  obtain ⟨⟨xs, ys, hx, hy⟩, b1, b2⟩ := hp
  exact specD_at (an := [some (la_eqi32 a xs ys)]) envOK cw0_ok (fun _ => g_eqi32 a xs ys hx hy b1 b2) K ⟨⟨xs, ys, hx, hy⟩, b1, b2⟩ hq
theorem g_eqbool (a : S2) (xs ys : List Bool) (hx : Sli (Value.bool) 1 a.a.n a.a.o a.a.l a.a.k a.a.c xs) (hy : Sli (Value.bool) 1 a.b.n a.b.o a.b.l a.b.k a.b.c ys) (b1 : a.a.l ≤ 1000000) (b2 : a.b.l ≤ 1000000) : G_eqbool a xs ys := by
  have lx := hx.len
  have ly := hy.len
  have fx := hx.flat
  have fy := hy.flat
  rw [vc_eqbool]
  intro x0 e0 x1 e1
  refine ⟨fun hne => ⟨(), fun u v hu hv h => ?_, rfl, trivial⟩, fun heq x5 e5 => ?_⟩
  · have := hu.len; have := hv.len; subst h; omega
  have e01 : a.a.l = a.b.l := by omega
  refine ⟨⟨0⟩, ⟨⟨by decide, by simp⟩, by simp⟩, ?_, ?_⟩
  · have e5 := e5.symm
    repeat' first | with_reducible apply And.intro | exact trivial | exact rfl | assumption
  rintro ⟨i⟩ ⟨⟨hi0, hi1⟩, ht⟩
  dsimp only at hi0 hi1 ht ⊢
  rw [Nat.one_mul] at ht
  refine ⟨fun hlt => ?_, fun hge => ?_⟩
  · have h1 : i.toNat < xs.length := by omega
    have h2 : i.toNat < ys.length := by omega
    refine ⟨⟨hi0, by omega⟩, fun p hp => ⟨xs[i.toNat], by rw [hp, Nat.mul_one]; exact hx.at_.get h1, ⟨hi0, by omega⟩, fun q hq => ⟨ys[i.toNat], by rw [hq, Nat.mul_one]; exact hy.at_.get h2, fun hne => ⟨?_, (), fun u v hu hv h => ?_, rfl, trivial⟩, fun hee => ⟨?_, fun z hz => ?_⟩⟩⟩⟩
    · repeat' first | with_reducible apply And.intro | exact trivial | exact rfl | assumption
    · exfalso
      have e1 := Sli.uniqB hu hx
      have e2 := Sli.uniqB hv hy
      subst e1 e2
      apply hne
      subst h
      rfl
    · repeat' first | with_reducible apply And.intro | exact trivial | exact rfl | assumption
    · rw [wrap_i64] at hz
      have hz' : z.toNat = i.toNat + 1 := by omega
      refine ⟨⟨z⟩, ⟨⟨by show 0 ≤ z; omega, by show z ≤ _; omega⟩, by (show xs.take (1 * z.toNat) = ys.take (1 * z.toNat)); rw [Nat.one_mul, hz']; exact take_succ_eqG ht h1 h2 (Classical.byContradiction hee)⟩, by show ((a.a.l : Int) - z).toNat < ((a.a.l : Int) - i).toNat; omega, ?_⟩
      repeat' first | with_reducible apply And.intro | exact trivial | exact rfl | assumption
  · refine ⟨(), fun u v hu hv => ?_, rfl, trivial⟩
    have e1 := Sli.uniqB hu hx
    have e2 := Sli.uniqB hv hy
    subst e1 e2
    rw [List.take_of_length_le (by omega), List.take_of_length_le (by omega)] at ht
    exact ht
theorem s_eqbool : SpecOK Tryz.prog S_eqbool.spec := fun a K hp hq => by
  obtain ⟨⟨xs, ys, hx, hy⟩, b1, b2⟩ := hp
  exact specD_at (an := [some (la_eqbool a xs ys)]) envOK cw0_ok (fun _ => g_eqbool a xs ys hx hy b1 b2) K ⟨⟨xs, ys, hx, hy⟩, b1, b2⟩ hq
theorem take8_eq {xs ys : List Int} {i : Nat} (hl : xs.length = ys.length) (h8 : 8 * i + 8 ≤ xs.length) (ht : xs.take (8 * i) = ys.take (8 * i)) (h : ∀ j, j < 8 → xs.getD (8 * i + j) 0 = ys.getD (8 * i + j) 0) : xs.take (8 * (i + 1)) = ys.take (8 * (i + 1)) := by
  refine ext_getD 0 (by rw [List.length_take, List.length_take, hl]) fun t ht' => ?_
  rw [List.length_take] at ht'
  have g : ∀ zs : List Int, (zs.take (8 * (i + 1))).getD t 0 = zs.getD t 0 := fun zs => by
    simp only [List.getD]; rw [List.getElem?_take, if_pos (by omega)]
  rw [g, g]
  by_cases hti : t < 8 * i
  · have k : ∀ zs : List Int, (zs.take (8 * i)).getD t 0 = zs.getD t 0 := fun zs => by
      simp only [List.getD]; rw [List.getElem?_take, if_pos hti]
    rw [← k xs, ← k ys, ht]
  · have := h (t - 8 * i) (by omega)
    rwa [show 8 * i + (t - 8 * i) = t by omega] at this
theorem g_eqdig (a : S2) (xs ys : List Int) (hx : Sli (Value.int .u8) 8 a.a.n a.a.o a.a.l a.a.k a.a.c xs) (hy : Sli (Value.int .u8) 8 a.b.n a.b.o a.b.l a.b.k a.b.c ys) (b1 : a.a.l ≤ 1000000) (b2 : a.b.l ≤ 1000000) : G_eqdig a xs ys := by
  have lx := hx.len
  have ly := hy.len
  have fx := hx.flat
  have fy := hy.flat
  rw [vc_eqdig]
  intro x0 e0 x1 e1
  refine ⟨fun hne => ⟨(), fun u v hu hv h => ?_, rfl, trivial⟩, fun heq x5 e5 => ?_⟩
  · have := hu.len; have := hv.len; subst h; omega
  have e01 : a.a.l = a.b.l := by omega
  refine ⟨⟨0⟩, ⟨⟨by decide, by simp⟩, by simp⟩, ?_, ?_⟩
  · have e5 := e5.symm
    repeat' first | with_reducible apply And.intro | exact trivial | exact rfl | assumption
  rintro ⟨i⟩ ⟨⟨hi0, hi1⟩, ht⟩
  dsimp only at hi0 hi1 ht ⊢
  refine ⟨fun hlt => ?_, fun hge => ?_⟩
  · have rx : ∀ (p t : Nat), p = a.a.o + i.toNat * 8 → t < 8 → Rd a.a.c (Nat.add p t) (.int .u8 (xs.getD (8 * i.toNat + t) 0)) := fun p t hp h => by
      have h1 : 8 * i.toNat + t < xs.length := by omega
      rw [getD_get h1, show Nat.add p t = a.a.o + (8 * i.toNat + t) by show p + t = _; omega]
      exact hx.at_.get h1
    have ry : ∀ (p t : Nat), p = a.b.o + i.toNat * 8 → t < 8 → Rd a.b.c (Nat.add p t) (.int .u8 (ys.getD (8 * i.toNat + t) 0)) := fun p t hp h => by
      have h1 : 8 * i.toNat + t < ys.length := by omega
      rw [getD_get h1, show Nat.add p t = a.b.o + (8 * i.toNat + t) by show p + t = _; omega]
      exact hy.at_.get h1
    refine ⟨⟨hi0, by omega⟩, fun p hp => ⟨_, rx p 0 hp (by decide), _, rx p 1 hp (by decide), _, rx p 2 hp (by decide), _, rx p 3 hp (by decide), _, rx p 4 hp (by decide), _, rx p 5 hp (by decide), _, rx p 6 hp (by decide), _, rx p 7 hp (by decide), ⟨hi0, by omega⟩, fun q hq => ⟨_, ry q 0 hq (by decide), _, ry q 1 hq (by decide), _, ry q 2 hq (by decide), _, ry q 3 hq (by decide), _, ry q 4 hq (by decide), _, ry q 5 hq (by decide), _, ry q 6 hq (by decide), _, ry q 7 hq (by decide), fun hne => ⟨?_, (), fun u v hu hv h => ?_, rfl, trivial⟩, fun hee => ⟨?_, fun z hz => ?_⟩⟩⟩⟩
    · repeat' first | with_reducible apply And.intro | exact trivial | exact rfl | assumption
    · exfalso
      have e1 := Sli.uniqI hu hx
      have e2 := Sli.uniqI hv hy
      subst e1 e2
      apply hne
      subst h
      repeat' first | with_reducible apply And.intro | exact trivial | exact rfl | assumption
    · repeat' first | with_reducible apply And.intro | exact trivial | exact rfl | assumption
    · obtain ⟨q0, q1, q2, q3, q4, q5, q6, q7, _⟩ := hee
      rw [wrap_i64] at hz
      have hz' : z.toNat = i.toNat + 1 := by omega
      refine ⟨⟨z⟩, ⟨⟨by show 0 ≤ z; omega, by show z ≤ _; omega⟩, ?_⟩, by show ((a.a.l : Int) - z).toNat < ((a.a.l : Int) - i).toNat; omega, ?_⟩
      · show xs.take (8 * z.toNat) = ys.take (8 * z.toNat)
        rw [hz']
        refine take8_eq (by omega) (by omega) ht fun j hj => ?_
        match j, hj with
        | 0, _ => exact q0
        | 1, _ => exact q1
        | 2, _ => exact q2
        | 3, _ => exact q3
        | 4, _ => exact q4
        | 5, _ => exact q5
        | 6, _ => exact q6
        | 7, _ => exact q7
      · repeat' first | with_reducible apply And.intro | exact trivial | exact rfl | assumption
  · refine ⟨(), fun u v hu hv => ?_, rfl, trivial⟩
    have e1 := Sli.uniqI hu hx
    have e2 := Sli.uniqI hv hy
    subst e1 e2
    rw [List.take_of_length_le (by omega), List.take_of_length_le (by omega)] at ht
    exact ht
theorem s_eqdig : SpecOK Tryz.prog S_eqdig.spec := fun a K hp hq => by
  obtain ⟨⟨xs, ys, hx, hy⟩, b1, b2⟩ := hp
  exact specD_at (an := [some (la_eqdig a xs ys)]) envOK cw0_ok (fun _ => g_eqdig a xs ys hx hy b1 b2) K ⟨⟨xs, ys, hx, hy⟩, b1, b2⟩ hq
theorem g_gsame (a : P2G) (x y : PX) (hx : PH a.a x) (hy : PH a.b y) (b1 : a.a.s1.l ≤ 1000 ∧ a.a.s2.l ≤ 1000 ∧ a.a.s3.l ≤ 1000) (b2 : a.b.s1.l ≤ 1000 ∧ a.b.s2.l ≤ 1000 ∧ a.b.s3.l ≤ 1000) : G_gsame a := by
  have f1 := hx.p1.flat
  have f2 := hx.p2.flat
  have f3 := hx.p3.flat
  have f4 := hy.p1.flat
  have f5 := hy.p2.flat
  have f6 := hy.p3.flat
  have no : (x = y → RollsEq a.a a.b → False) → ∃ b : BL, (∀ u v : PX, PH a.a u → PH a.b v → (b.b = true ↔ u = v ∧ RollsEq a.a a.b)) ∧ b.b = false ∧ True := fun h => ⟨⟨false⟩, fun u v hu hv => ⟨(fun h => nomatch h), fun e => by
    obtain rfl := hx.uniq hu
    obtain rfl := hy.uniq hv
    exact (h e.1 e.2).elim⟩, rfl, trivial⟩
  rw [vc_gsame]
  refine ⟨⟨trivial, ⟨_, _, hx.p1, hy.p1⟩, by omega, by omega⟩, ?_, fun _ h1 => ⟨⟨trivial, ⟨_, _, hx.p2, hy.p2⟩, by omega, by omega⟩, ?_, fun _ h2 => ⟨⟨trivial, ⟨_, _, hx.p3, hy.p3⟩, by omega, by omega⟩, ?_, fun _ h3 => ⟨fun hr => ?_, fun hr => no fun _ e => ?_⟩, fun _ h3 => no fun e _ => ?_, trivial⟩, fun _ h2 => no fun e _ => ?_, trivial⟩, fun _ h1 => no fun e _ => ?_, trivial⟩
  · repeat' first | with_reducible apply And.intro | exact trivial | exact rfl | assumption
  · repeat' first | with_reducible apply And.intro | exact trivial | exact rfl | assumption
  · repeat' first | with_reducible apply And.intro | exact trivial | exact rfl | assumption
  · obtain ⟨r0, r1, r2, r3, r4, _⟩ := hr
    refine ⟨⟨true⟩, fun u v hu hv => ⟨fun _ => ?_, fun _ => rfl⟩, rfl, trivial⟩
    have k1 := h1 _ _ hu.p1 hv.p1
    have k2 := h2 _ _ hu.p2 hv.p2
    have k3 := h3 _ _ hu.p3 hv.p3
    obtain ⟨u1, u2, u3⟩ := u
    obtain ⟨v1, v2, v3⟩ := v
    dsimp only at k1 k2 k3
    subst k1 k2 k3
    exact ⟨rfl, r0, r1, r2, r3, r4⟩
  · exact hr ⟨e.r0, e.r1, e.r2, e.r3, e.r4, trivial⟩
  · exact h3 _ _ hx.p3 hy.p3 (by rw [e])
  · exact h2 _ _ hx.p2 hy.p2 (by rw [e])
  · exact h1 _ _ hx.p1 hy.p1 (by rw [e])
theorem s_gsame : SpecOK Tryz.prog S_gsame.spec := fun a K hp hq => by
  obtain ⟨⟨⟨x, hx⟩, y, hy⟩, b1, b2⟩ := hp
  exact specD_at (an := []) envOK (cwD_ok s_eqi32 (cwD_ok s_eqbool (cwD_ok s_eqdig cw0_ok))) (fun _ => g_gsame a x y hx hy b1 b2) K ⟨⟨⟨x, hx⟩, y, hy⟩, b1, b2⟩ hq
end Go.Proofs.YthcldogebnjohaaGreatDoor
end

/- Clone, the length told of what is made (what is to be shown). -/
section
set_option maxRecDepth 100000
namespace Go.Proofs.YthcldogebnjohaaGreatDoor
open Go.Ev
-- keep Go.Ev.Sli PH
set_option linter.unusedSectionVars false
variable [Go.Ev.Frozen Tryz.prog]
noncomputable section
def S_clx32 : SpecD where
  f := 41
  α := SA
  args a := [a.v 12]
  R a := [(12, .f a.c 21 .gro)]
  n := 12 + 1
  pre a := (∃ xs, Sli (Value.int .i32) 1 a.n a.o a.l a.k a.c xs) ∧ a.l ≤ 1000
  outs := [⟨RW, fun a b => (∀ xs, Sli (Value.int .i32) 1 a.n a.o a.l a.k a.c xs → Sli (Value.int .i32) 1 a.n 0 a.l b.k b.c xs) ∧ (a.n = false → b.c.length = a.l), fun a b => mnS (12 + 1) a.n 0 a.l b.k, fun _ b => [(12 + 1, .f b.c 21 (.grown b.k))], fun _ _ => 12 + 2, fun v _ => renS (12 + 1) v⟩]
  pick _ _ := 0
  find l A := some (saOf A (lv l 0), renS 12 (lv l 0))
def G_clx32 (a : SA) : Prop := fnW Tryz.prog E0 cw0 [] S_clx32.f (S_clx32.args a) (mem (S_clx32.R a) S_clx32.n) (endD Tryz.prog S_clx32 a)
def S_clonex : SpecD where
  f := 7
  α := PA
  args a := [a.v 12]
  R a := a.R 12 41
  n := 12 + 3
  pre a := (∃ x, PH a x) ∧ (a.s1.l ≤ 1000 ∧ a.s2.l ≤ 1000 ∧ a.s3.l ≤ 1000)
  outs := [⟨PB, fun a b => (∀ x, PH a x → PH (b.pa a) x) ∧ (a.s1.n = false → b.b1.c.length = a.s1.l), fun a b => .agg ⟨mnS (12 + 3) a.s1.n 0 a.s1.l b.b1.k :: mnS (12 + 4) a.s2.n 0 a.s2.l b.b2.k :: mnS (12 + 5) a.s3.n 0 a.s3.l b.b3.k :: rolls a⟩,
    fun _ b => [(12 + 3, .f b.b1.c 21 (.grown b.b1.k)), (12 + 4, .f b.b2.c 4 (.grown b.b2.k)), (12 + 5, .f b.b3.c 41 (.grown b.b3.k))], fun _ _ => 12 + 6, fun v _ => paN (12 + 3) (agv v)⟩]
  pick _ _ := 0
  find l A := some (paOf A (agv (lv l 0)), paN 12 (agv (lv l 0)))
def G_clonex (a : PA) : Prop := fnW Tryz.prog E0 (cwD Tryz.prog S_clx32 (cwD Tryz.prog S_clbool (cwD Tryz.prog S_cldig cw0))) [] S_clonex.f (S_clonex.args a) (mem (S_clonex.R a) S_clonex.n) (endD Tryz.prog S_clonex a)
end
end Go.Proofs.YthcldogebnjohaaGreatDoor
end
