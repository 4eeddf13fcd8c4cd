/- The law of what can't be begun, where nothing is begun, is so. -/
import Derived.Test.YthcldogebnjohaaGreatDoorYss
set_option maxRecDepth 100000
set_option linter.constructorNameAsVariable false
namespace Go.Proofs.YthcldogebnjohaaGreatDoor
open Go.Ev
set_option linter.unusedSectionVars false
variable [Go.Ev.Frozen Tryz.prog]
theorem vc_none3 (a : NnA) (xs : List Int) : G_none3 a xs = ((True ∧ True) ∧ (True ∧ (True ∧ FlatL cells0 ∧ cells0 = cells0) ∧ (True ∧ FlatL cells1 ∧ cells1 = cells1) ∧ (True ∧ FlatL cells2 ∧ cells2 = cells2) ∧ (True ∧ FlatL cells4 ∧ cells4
= cells4) ∧ (True ∧ FlatL cells5 ∧ cells5 = cells5) ∧ (True ∧ FlatL cells6 ∧ cells6 = cells6) ∧ (True ∧ FlatL cells8 ∧ cells8 = cells8) ∧ (True ∧ FlatL cells9 ∧ cells9 = cells9) ∧
(True ∧ FlatL cells10 ∧ cells10 = cells10) ∧ True) ∧ (∀ (x0 : Unit), True → ∀ (x1 : Int), x1 = (↑a.2.3 : Int) → ((10 : Int) < x1 → (True ∧ True) ∧ (True ∧ (True ∧ FlatL cells0 ∧
cells0 = cells0) ∧ (True ∧ FlatL cells1 ∧ cells1 = cells1) ∧ (True ∧ FlatL cells2 ∧ cells2 = cells2) ∧ (True ∧ FlatL cells4 ∧ cells4 = cells4) ∧ (True ∧ FlatL cells5 ∧ cells5 =
cells5) ∧ (True ∧ FlatL cells6 ∧ cells6 = cells6) ∧ (True ∧ FlatL cells8 ∧ cells8 = cells8) ∧ (True ∧ FlatL cells9 ∧ cells9 = cells9) ∧ (True ∧ FlatL cells10 ∧ cells10 = cells10) ∧
True) ∧ (∀ (x2 : Unit), True → ∃ (x3 : Unit), True ∧ Bool.true = Bool.true ∧ True) ∧ True) ∧ (¬(10 : Int) < x1 → (True ∧ (0 : Int) ≤ a.1 ∧ a.1 < (256 : Int)) ∧ ((a.1 = a.1 ∧ True)
∧ (True ∧ FlatL cells0 ∧ cells0 = cells0) ∧ (True ∧ FlatL cells1 ∧ cells1 = cells1) ∧ (True ∧ FlatL cells2 ∧ cells2 = cells2) ∧ (True ∧ FlatL cells4 ∧ cells4 = cells4) ∧ (True ∧
FlatL cells5 ∧ cells5 = cells5) ∧ (True ∧ FlatL cells6 ∧ cells6 = cells6) ∧ (True ∧ FlatL cells8 ∧ cells8 = cells8) ∧ (True ∧ FlatL cells9 ∧ cells9 = cells9) ∧ (True ∧ FlatL
cells10 ∧ cells10 = cells10) ∧ True) ∧ (∀ (x4 : StO), (rlF x4.1 ∧ x4.1.1.3 = (2 : Nat) ∧ x4.1.2.3 = (2 : Nat) ∧ ∃ (x5 : PX), ∃ (x6 : List Int), PH (PA.mk (SA.mk Bool.false (0 :
Nat) (2 : Nat) x4.3.1 x4.3.2) (SA.mk Bool.false (0 : Nat) (2 : Nat) x4.4.1 x4.4.2) (SA.mk Bool.false (0 : Nat) (2 : Nat) x4.5.1 x4.5.2) (0 : Int) (0 : Int) (0 : Int) (0 : Int) (0 :
Int)) x5 ∧ Sli (Value.int IntKind.i32) (2 : Nat) x4.1.2.1 x4.1.2.2 x4.1.2.3 x4.1.2.4 x4.1.2.5 x6 ∧ inAll x6 x5.1 (2 : Nat)) → (True ∧ (rlF x4.1 ∧ okNw (NwA.mk x4.1 (PA.mk (SA.mk
Bool.false (nat_lit 0) (nat_lit 2) x4.3.1 x4.3.2) (SA.mk Bool.false (nat_lit 0) (nat_lit 2) x4.4.1 x4.4.2) (SA.mk Bool.false (nat_lit 0) (nat_lit 2) x4.5.1 x4.5.2) (Int.ofNat (0 :
Nat)) (Int.ofNat (0 : Nat)) (Int.ofNat (0 : Nat)) (Int.ofNat (0 : Nat)) (Int.ofNat (0 : Nat))) a.2) ∧ (nat_lit 2 ≤ (1000 : Nat) ∧ nat_lit 2 ≤ (1000 : Nat) ∧ nat_lit 2 ≤ (1000 :
Nat)) ∧ (∃ (x7 : List Int), Sli (Value.int IntKind.i64) (1 : Nat) a.2.1 a.2.2 a.2.3 a.2.4 a.2.5 x7) ∧ a.2.3 ≤ (1000 : Nat)) ∧ nat_lit 2 = x4.1.2.3 ∧ cond3 (NwA.mk x4.1 (PA.mk
(SA.mk Bool.false (nat_lit 0) (nat_lit 2) x4.3.1 x4.3.2) (SA.mk Bool.false (nat_lit 0) (nat_lit 2) x4.4.1 x4.4.2) (SA.mk Bool.false (nat_lit 0) (nat_lit 2) x4.5.1 x4.5.2)
(Int.ofNat (0 : Nat)) (Int.ofNat (0 : Nat)) (Int.ofNat (0 : Nat)) (Int.ofNat (0 : Nat)) (Int.ofNat (0 : Nat))) a.2)) ∧ (((0 : Nat) = (0 : Nat) ∧ ((Bool.false = Bool.false ∧ nat_lit
0 = nat_lit 0 ∧ nat_lit 2 = nat_lit 2 ∧ x4.3.1 = x4.3.1) ∧ (Bool.false = Bool.false ∧ nat_lit 0 = nat_lit 0 ∧ nat_lit 2 = nat_lit 2 ∧ x4.4.1 = x4.4.1) ∧ (Bool.false = Bool.false ∧
nat_lit 0 = nat_lit 0 ∧ nat_lit 2 = nat_lit 2 ∧ x4.5.1 = x4.5.1) ∧ Int.ofNat (0 : Nat) = Int.ofNat (0 : Nat) ∧ Int.ofNat (0 : Nat) = Int.ofNat (0 : Nat) ∧ Int.ofNat (0 : Nat) =
Int.ofNat (0 : Nat) ∧ Int.ofNat (0 : Nat) = Int.ofNat (0 : Nat) ∧ Int.ofNat (0 : Nat) = Int.ofNat (0 : Nat) ∧ True) ∧ (a.2.1 = a.2.1 ∧ a.2.2 = a.2.2 ∧ a.2.3 = a.2.3 ∧ a.2.4 =
a.2.4) ∧ True) ∧ (True ∧ True ∧ (x4.1.1.1 = x4.1.1.1 ∧ x4.1.1.2 = x4.1.1.2 ∧ x4.1.1.3 = x4.1.1.3 ∧ x4.1.1.4 = x4.1.1.4) ∧ True ∧ True ∧ True ∧ True ∧ True ∧ True ∧ True ∧ True ∧
True ∧ True ∧ (x4.1.2.1 = x4.1.2.1 ∧ x4.1.2.2 = x4.1.2.2 ∧ x4.1.2.3 = x4.1.2.3 ∧ x4.1.2.4 = x4.1.2.4) ∧ True) ∧ (True ∧ FlatL x4.1.1.5 ∧ x4.1.1.5 = x4.1.1.5) ∧ (True ∧ FlatL
x4.1.2.5 ∧ x4.1.2.5 = x4.1.2.5) ∧ (True ∧ FlatL x4.3.2 ∧ x4.3.2 = x4.3.2) ∧ (True ∧ FlatL x4.4.2 ∧ x4.4.2 = x4.4.2) ∧ (True ∧ FlatL x4.5.2 ∧ x4.5.2 = x4.5.2) ∧ (True ∧ FlatL a.2.5
∧ a.2.5 = a.2.5) ∧ True) ∧ (∀ (x8 : Unit), True → ∀ (x9 : Int), x9 = (↑a.2.3 : Int) → ∃ (x10 : NnM), ((((0 : Int) ≤ x10.2 ∧ x10.2 ≤ (↑a.2.3 : Int)) ∧ True) ∧ okSt x10.1) ∧ (((a.2.1
= a.2.1 ∧ a.2.2 = a.2.2 ∧ a.2.3 = a.2.3 ∧ a.2.4 = a.2.4) ∧ a.3 = a.3 ∧ (0 : Nat) = (0 : Nat) ∧ (0 : Nat) = (0 : Nat) ∧ True ∧ (3 : Int) = (3 : Int) ∧ x10.3 = (0 : Int) ∧ x10.4 = (0
: Int) ∧ (a.2.1 = a.2.1 ∧ a.2.2 = a.2.2 ∧ a.2.3 = a.2.3 ∧ a.2.4 = a.2.4) ∧ (↑a.2.3 : Int) = x9 ∧ x10.2 = (0 : Int) ∧ True) ∧ ((True ∧ FlatL a.2.5 ∧ a.2.5 = a.2.5) ∧ (True ∧ True ∧
(x10.1.1.1.1 = x4.1.1.1 ∧ x10.1.1.1.2 = x4.1.1.2 ∧ x10.1.1.1.3 = x4.1.1.3 ∧ x10.1.1.1.4 = x4.1.1.4) ∧ x10.1.2.1 = x4.2.1 ∧ x10.1.2.2 = x4.2.2 ∧ x10.1.2.3 = x4.2.3 ∧ x10.1.2.4 =
x4.2.4 ∧ x10.1.2.5 = x4.2.5 ∧ x10.1.2.6 = x4.2.6 ∧ x10.1.2.7 = x4.2.7 ∧ x10.1.2.8 = x4.2.8 ∧ True ∧ True ∧ (x10.1.1.2.1 = x4.1.2.1 ∧ x10.1.1.2.2 = x4.1.2.2 ∧ x10.1.1.2.3 = x4.1.2.3
∧ x10.1.1.2.4 = x4.1.2.4) ∧ True) ∧ (True ∧ FlatL x10.1.1.1.5 ∧ x10.1.1.1.5 = x4.1.1.5) ∧ (True ∧ FlatL x10.1.1.2.5 ∧ x10.1.1.2.5 = x4.1.2.5) ∧ (True ∧ FlatL x10.1.3.2 ∧ x10.1.3.2
= x4.3.2) ∧ (True ∧ FlatL x10.1.4.2 ∧ x10.1.4.2 = x4.4.2) ∧ (True ∧ FlatL x10.1.5.2 ∧ x10.1.5.2 = x4.5.2) ∧ (True ∧ (Bool.false = Bool.false ∧ nat_lit 0 = nat_lit 0 ∧ nat_lit 2 =
nat_lit 2 ∧ x10.1.3.1 = x4.3.1) ∧ (Bool.false = Bool.false ∧ nat_lit 0 = nat_lit 0 ∧ nat_lit 2 = nat_lit 2 ∧ x10.1.4.1 = x4.4.1) ∧ (Bool.false = Bool.false ∧ nat_lit 0 = nat_lit 0
∧ nat_lit 2 = nat_lit 2 ∧ x10.1.5.1 = x4.5.1) ∧ Int.ofNat (0 : Nat) = Int.ofNat (0 : Nat) ∧ Int.ofNat (0 : Nat) = Int.ofNat (0 : Nat) ∧ Int.ofNat (0 : Nat) = Int.ofNat (0 : Nat) ∧
Int.ofNat (0 : Nat) = Int.ofNat (0 : Nat) ∧ Int.ofNat (0 : Nat) = Int.ofNat (0 : Nat) ∧ True) ∧ True) ∧ True) ∧ ∀ (x11 : NnM), (((0 : Int) ≤ x11.2 ∧ x11.2 ≤ (↑a.2.3 : Int)) ∧ True)
∧ okSt x11.1 → (x11.2 < (↑a.2.3 : Int) → ((0 : Int) ≤ x11.2 ∧ x11.2 < (↑a.2.3 : Int)) ∧ ∀ (x12 : Nat), x12 = a.2.2 + Int.toNat x11.2 * (1 : Nat) → ∃ (x13 : Int), Rd a.2.5 (Nat.add
x12 (0 : Nat)) (Value.int IntKind.i64 x13) ∧ (x13 < (0 : Int) → ∀ (x14 : Int), x14 = IntKind.wrap IntKind.i64 (x11.2 + (1 : Int)) → ∃ (x15 : NnM), ((((0 : Int) ≤ x15.2 ∧ x15.2 ≤
(↑a.2.3 : Int)) ∧ True) ∧ okSt x15.1) ∧ Int.toNat ((↑a.2.3 : Int) - x15.2) < Int.toNat ((↑a.2.3 : Int) - x11.2) ∧ ((a.2.1 = a.2.1 ∧ a.2.2 = a.2.2 ∧ a.2.3 = a.2.3 ∧ a.2.4 = a.2.4) ∧
a.3 = a.3 ∧ (0 : Nat) = (0 : Nat) ∧ (0 : Nat) = (0 : Nat) ∧ True ∧ (3 : Int) = (3 : Int) ∧ x15.3 = (2 : Int) ∧ x15.4 = x11.4 ∧ (a.2.1 = a.2.1 ∧ a.2.2 = a.2.2 ∧ a.2.3 = a.2.3 ∧
a.2.4 = a.2.4) ∧ (↑a.2.3 : Int) = (↑a.2.3 : Int) ∧ x15.2 = x14 ∧ True) ∧ ((True ∧ FlatL a.2.5 ∧ a.2.5 = a.2.5) ∧ (True ∧ True ∧ (x15.1.1.1.1 = x11.1.1.1.1 ∧ x15.1.1.1.2 =
x11.1.1.1.2 ∧ x15.1.1.1.3 = x11.1.1.1.3 ∧ x15.1.1.1.4 = x11.1.1.1.4) ∧ x15.1.2.1 = x11.1.2.1 ∧ x15.1.2.2 = x11.1.2.2 ∧ x15.1.2.3 = x11.1.2.3 ∧ x15.1.2.4 = x11.1.2.4 ∧ x15.1.2.5 =
x11.1.2.5 ∧ x15.1.2.6 = x11.1.2.6 ∧ x15.1.2.7 = x11.1.2.7 ∧ x15.1.2.8 = x11.1.2.8 ∧ True ∧ True ∧ (x15.1.1.2.1 = x11.1.1.2.1 ∧ x15.1.1.2.2 = x11.1.1.2.2 ∧ x15.1.1.2.3 = x11.1.1.2.3
∧ x15.1.1.2.4 = x11.1.1.2.4) ∧ True) ∧ (True ∧ FlatL x15.1.1.1.5 ∧ x15.1.1.1.5 = x11.1.1.1.5) ∧ (True ∧ FlatL x15.1.1.2.5 ∧ x15.1.1.2.5 = x11.1.1.2.5) ∧ (True ∧ FlatL x15.1.3.2 ∧
x15.1.3.2 = x11.1.3.2) ∧ (True ∧ FlatL x15.1.4.2 ∧ x15.1.4.2 = x11.1.4.2) ∧ (True ∧ FlatL x15.1.5.2 ∧ x15.1.5.2 = x11.1.5.2) ∧ (True ∧ (Bool.false = Bool.false ∧ nat_lit 0 =
nat_lit 0 ∧ nat_lit 2 = nat_lit 2 ∧ x15.1.3.1 = x11.1.3.1) ∧ (Bool.false = Bool.false ∧ nat_lit 0 = nat_lit 0 ∧ nat_lit 2 = nat_lit 2 ∧ x15.1.4.1 = x11.1.4.1) ∧ (Bool.false =
Bool.false ∧ nat_lit 0 = nat_lit 0 ∧ nat_lit 2 = nat_lit 2 ∧ x15.1.5.1 = x11.1.5.1) ∧ Int.ofNat (0 : Nat) = Int.ofNat (0 : Nat) ∧ Int.ofNat (0 : Nat) = Int.ofNat (0 : Nat) ∧
Int.ofNat (0 : Nat) = Int.ofNat (0 : Nat) ∧ Int.ofNat (0 : Nat) = Int.ofNat (0 : Nat) ∧ Int.ofNat (0 : Nat) = Int.ofNat (0 : Nat) ∧ True) ∧ True) ∧ True) ∧ (¬x13 < (0 : Int) →
((1125899906842624 : Int) < x13 → ∀ (x16 : Int), x16 = IntKind.wrap IntKind.i64 (x11.2 + (1 : Int)) → ∃ (x17 : NnM), ((((0 : Int) ≤ x17.2 ∧ x17.2 ≤ (↑a.2.3 : Int)) ∧ True) ∧ okSt
x17.1) ∧ Int.toNat ((↑a.2.3 : Int) - x17.2) < Int.toNat ((↑a.2.3 : Int) - x11.2) ∧ ((a.2.1 = a.2.1 ∧ a.2.2 = a.2.2 ∧ a.2.3 = a.2.3 ∧ a.2.4 = a.2.4) ∧ a.3 = a.3 ∧ (0 : Nat) = (0 :
Nat) ∧ (0 : Nat) = (0 : Nat) ∧ True ∧ (3 : Int) = (3 : Int) ∧ x17.3 = (2 : Int) ∧ x17.4 = x11.4 ∧ (a.2.1 = a.2.1 ∧ a.2.2 = a.2.2 ∧ a.2.3 = a.2.3 ∧ a.2.4 = a.2.4) ∧ (↑a.2.3 : Int) =
(↑a.2.3 : Int) ∧ x17.2 = x16 ∧ True) ∧ ((True ∧ FlatL a.2.5 ∧ a.2.5 = a.2.5) ∧ (True ∧ True ∧ (x17.1.1.1.1 = x11.1.1.1.1 ∧ x17.1.1.1.2 = x11.1.1.1.2 ∧ x17.1.1.1.3 = x11.1.1.1.3 ∧
x17.1.1.1.4 = x11.1.1.1.4) ∧ x17.1.2.1 = x11.1.2.1 ∧ x17.1.2.2 = x11.1.2.2 ∧ x17.1.2.3 = x11.1.2.3 ∧ x17.1.2.4 = x11.1.2.4 ∧ x17.1.2.5 = x11.1.2.5 ∧ x17.1.2.6 = x11.1.2.6 ∧
x17.1.2.7 = x11.1.2.7 ∧ x17.1.2.8 = x11.1.2.8 ∧ True ∧ True ∧ (x17.1.1.2.1 = x11.1.1.2.1 ∧ x17.1.1.2.2 = x11.1.1.2.2 ∧ x17.1.1.2.3 = x11.1.1.2.3 ∧ x17.1.1.2.4 = x11.1.1.2.4) ∧
True) ∧ (True ∧ FlatL x17.1.1.1.5 ∧ x17.1.1.1.5 = x11.1.1.1.5) ∧ (True ∧ FlatL x17.1.1.2.5 ∧ x17.1.1.2.5 = x11.1.1.2.5) ∧ (True ∧ FlatL x17.1.3.2 ∧ x17.1.3.2 = x11.1.3.2) ∧ (True ∧
FlatL x17.1.4.2 ∧ x17.1.4.2 = x11.1.4.2) ∧ (True ∧ FlatL x17.1.5.2 ∧ x17.1.5.2 = x11.1.5.2) ∧ (True ∧ (Bool.false = Bool.false ∧ nat_lit 0 = nat_lit 0 ∧ nat_lit 2 = nat_lit 2 ∧
x17.1.3.1 = x11.1.3.1) ∧ (Bool.false = Bool.false ∧ nat_lit 0 = nat_lit 0 ∧ nat_lit 2 = nat_lit 2 ∧ x17.1.4.1 = x11.1.4.1) ∧ (Bool.false = Bool.false ∧ nat_lit 0 = nat_lit 0 ∧
nat_lit 2 = nat_lit 2 ∧ x17.1.5.1 = x11.1.5.1) ∧ Int.ofNat (0 : Nat) = Int.ofNat (0 : Nat) ∧ Int.ofNat (0 : Nat) = Int.ofNat (0 : Nat) ∧ Int.ofNat (0 : Nat) = Int.ofNat (0 : Nat) ∧
Int.ofNat (0 : Nat) = Int.ofNat (0 : Nat) ∧ Int.ofNat (0 : Nat) = Int.ofNat (0 : Nat) ∧ True) ∧ True) ∧ True) ∧ (¬(1125899906842624 : Int) < x13 → ∀ (x18 : Int), x18 = IntKind.wrap
IntKind.i64 (x11.4 + x13) → ∀ (x19 : Int), x19 = IntKind.wrap IntKind.i64 (x11.2 + (1 : Int)) → ∃ (x20 : NnM), ((((0 : Int) ≤ x20.2 ∧ x20.2 ≤ (↑a.2.3 : Int)) ∧ True) ∧ okSt x20.1)
∧ Int.toNat ((↑a.2.3 : Int) - x20.2) < Int.toNat ((↑a.2.3 : Int) - x11.2) ∧ ((a.2.1 = a.2.1 ∧ a.2.2 = a.2.2 ∧ a.2.3 = a.2.3 ∧ a.2.4 = a.2.4) ∧ a.3 = a.3 ∧ (0 : Nat) = (0 : Nat) ∧
(0 : Nat) = (0 : Nat) ∧ True ∧ (3 : Int) = (3 : Int) ∧ x20.3 = x11.3 ∧ x20.4 = x18 ∧ (a.2.1 = a.2.1 ∧ a.2.2 = a.2.2 ∧ a.2.3 = a.2.3 ∧ a.2.4 = a.2.4) ∧ (↑a.2.3 : Int) = (↑a.2.3 :
Int) ∧ x20.2 = x19 ∧ True) ∧ ((True ∧ FlatL a.2.5 ∧ a.2.5 = a.2.5) ∧ (True ∧ True ∧ (x20.1.1.1.1 = x11.1.1.1.1 ∧ x20.1.1.1.2 = x11.1.1.1.2 ∧ x20.1.1.1.3 = x11.1.1.1.3 ∧ x20.1.1.1.4
= x11.1.1.1.4) ∧ x20.1.2.1 = x11.1.2.1 ∧ x20.1.2.2 = x11.1.2.2 ∧ x20.1.2.3 = x11.1.2.3 ∧ x20.1.2.4 = x11.1.2.4 ∧ x20.1.2.5 = x11.1.2.5 ∧ x20.1.2.6 = x11.1.2.6 ∧ x20.1.2.7 =
x11.1.2.7 ∧ x20.1.2.8 = x11.1.2.8 ∧ True ∧ True ∧ (x20.1.1.2.1 = x11.1.1.2.1 ∧ x20.1.1.2.2 = x11.1.1.2.2 ∧ x20.1.1.2.3 = x11.1.1.2.3 ∧ x20.1.1.2.4 = x11.1.1.2.4) ∧ True) ∧ (True ∧
FlatL x20.1.1.1.5 ∧ x20.1.1.1.5 = x11.1.1.1.5) ∧ (True ∧ FlatL x20.1.1.2.5 ∧ x20.1.1.2.5 = x11.1.1.2.5) ∧ (True ∧ FlatL x20.1.3.2 ∧ x20.1.3.2 = x11.1.3.2) ∧ (True ∧ FlatL x20.1.4.2
∧ x20.1.4.2 = x11.1.4.2) ∧ (True ∧ FlatL x20.1.5.2 ∧ x20.1.5.2 = x11.1.5.2) ∧ (True ∧ (Bool.false = Bool.false ∧ nat_lit 0 = nat_lit 0 ∧ nat_lit 2 = nat_lit 2 ∧ x20.1.3.1 =
x11.1.3.1) ∧ (Bool.false = Bool.false ∧ nat_lit 0 = nat_lit 0 ∧ nat_lit 2 = nat_lit 2 ∧ x20.1.4.1 = x11.1.4.1) ∧ (Bool.false = Bool.false ∧ nat_lit 0 = nat_lit 0 ∧ nat_lit 2 =
nat_lit 2 ∧ x20.1.5.1 = x11.1.5.1) ∧ Int.ofNat (0 : Nat) = Int.ofNat (0 : Nat) ∧ Int.ofNat (0 : Nat) = Int.ofNat (0 : Nat) ∧ Int.ofNat (0 : Nat) = Int.ofNat (0 : Nat) ∧ Int.ofNat
(0 : Nat) = Int.ofNat (0 : Nat) ∧ Int.ofNat (0 : Nat) = Int.ofNat (0 : Nat) ∧ True) ∧ True) ∧ True))) ∧ (¬x11.2 < (↑a.2.3 : Int) → (∀ (x21 : Int), x21 = (↑a.2.3 : Int) → (x21 ≠ (2
: Int) → ∃ (x22 : StO), (rlF x22.1 ∧ x22.1.1.3 = (2 : Nat) ∧ x22.1.2.3 = (2 : Nat) ∧ ∃ (x23 : PX), ∃ (x24 : List Int), PH (PA.mk (SA.mk Bool.false (0 : Nat) (2 : Nat) x22.3.1
x22.3.2) (SA.mk Bool.false (0 : Nat) (2 : Nat) x22.4.1 x22.4.2) (SA.mk Bool.false (0 : Nat) (2 : Nat) x22.5.1 x22.5.2) (0 : Int) (0 : Int) (0 : Int) (0 : Int) (0 : Int)) x23 ∧ Sli
(Value.int IntKind.i32) (2 : Nat) x22.1.2.1 x22.1.2.2 x22.1.2.3 x22.1.2.4 x22.1.2.5 x24 ∧ inAll x24 x23.1 (2 : Nat)) ∧ ((a.2.1 = a.2.1 ∧ a.2.2 = a.2.2 ∧ a.2.3 = a.2.3 ∧ a.2.4 =
a.2.4) ∧ a.3 = a.3 ∧ (0 : Nat) = (0 : Nat) ∧ (0 : Nat) = (0 : Nat) ∧ True ∧ (3 : Int) = (3 : Int) ∧ (3 : Int) = (3 : Int) ∧ True) ∧ ((True ∧ FlatL a.2.5 ∧ a.2.5 = a.2.5) ∧ (True ∧
True ∧ (x22.1.1.1 = x11.1.1.1.1 ∧ x22.1.1.2 = x11.1.1.1.2 ∧ x22.1.1.3 = x11.1.1.1.3 ∧ x22.1.1.4 = x11.1.1.1.4) ∧ x22.2.1 = x11.1.2.1 ∧ x22.2.2 = x11.1.2.2 ∧ x22.2.3 = x11.1.2.3 ∧
x22.2.4 = x11.1.2.4 ∧ x22.2.5 = x11.1.2.5 ∧ x22.2.6 = x11.1.2.6 ∧ x22.2.7 = x11.1.2.7 ∧ x22.2.8 = x11.1.2.8 ∧ True ∧ True ∧ (x22.1.2.1 = x11.1.1.2.1 ∧ x22.1.2.2 = x11.1.1.2.2 ∧
x22.1.2.3 = x11.1.1.2.3 ∧ x22.1.2.4 = x11.1.1.2.4) ∧ True) ∧ (True ∧ FlatL x22.1.1.5 ∧ x22.1.1.5 = x11.1.1.1.5) ∧ (True ∧ FlatL x22.1.2.5 ∧ x22.1.2.5 = x11.1.1.2.5) ∧ (True ∧ FlatL
x22.3.2 ∧ x22.3.2 = x11.1.3.2) ∧ (True ∧ FlatL x22.4.2 ∧ x22.4.2 = x11.1.4.2) ∧ (True ∧ FlatL x22.5.2 ∧ x22.5.2 = x11.1.5.2) ∧ (True ∧ (Bool.false = Bool.false ∧ nat_lit 0 =
nat_lit 0 ∧ nat_lit 2 = nat_lit 2 ∧ x22.3.1 = x11.1.3.1) ∧ (Bool.false = Bool.false ∧ nat_lit 0 = nat_lit 0 ∧ nat_lit 2 = nat_lit 2 ∧ x22.4.1 = x11.1.4.1) ∧ (Bool.false =
Bool.false ∧ nat_lit 0 = nat_lit 0 ∧ nat_lit 2 = nat_lit 2 ∧ x22.5.1 = x11.1.5.1) ∧ Int.ofNat (0 : Nat) = Int.ofNat (0 : Nat) ∧ Int.ofNat (0 : Nat) = Int.ofNat (0 : Nat) ∧
Int.ofNat (0 : Nat) = Int.ofNat (0 : Nat) ∧ Int.ofNat (0 : Nat) = Int.ofNat (0 : Nat) ∧ Int.ofNat (0 : Nat) = Int.ofNat (0 : Nat) ∧ True) ∧ True) ∧ True) ∧ (¬x21 ≠ (2 : Int) →
(x11.3 = (0 : Int) → ((1125899906842624 : Int) < x11.4 → ∃ (x25 : StO), (rlF x25.1 ∧ x25.1.1.3 = (2 : Nat) ∧ x25.1.2.3 = (2 : Nat) ∧ ∃ (x26 : PX), ∃ (x27 : List Int), PH (PA.mk
(SA.mk Bool.false (0 : Nat) (2 : Nat) x25.3.1 x25.3.2) (SA.mk Bool.false (0 : Nat) (2 : Nat) x25.4.1 x25.4.2) (SA.mk Bool.false (0 : Nat) (2 : Nat) x25.5.1 x25.5.2) (0 : Int) (0 :
Int) (0 : Int) (0 : Int) (0 : Int)) x26 ∧ Sli (Value.int IntKind.i32) (2 : Nat) x25.1.2.1 x25.1.2.2 x25.1.2.3 x25.1.2.4 x25.1.2.5 x27 ∧ inAll x27 x26.1 (2 : Nat)) ∧ ((a.2.1 = a.2.1
∧ a.2.2 = a.2.2 ∧ a.2.3 = a.2.3 ∧ a.2.4 = a.2.4) ∧ a.3 = a.3 ∧ (0 : Nat) = (0 : Nat) ∧ (0 : Nat) = (0 : Nat) ∧ True ∧ (3 : Int) = (3 : Int) ∧ (3 : Int) = (22 : Int) ∧ True) ∧
((True ∧ FlatL a.2.5 ∧ a.2.5 = a.2.5) ∧ (True ∧ True ∧ (x25.1.1.1 = x11.1.1.1.1 ∧ x25.1.1.2 = x11.1.1.1.2 ∧ x25.1.1.3 = x11.1.1.1.3 ∧ x25.1.1.4 = x11.1.1.1.4) ∧ x25.2.1 = x11.1.2.1
∧ x25.2.2 = x11.1.2.2 ∧ x25.2.3 = x11.1.2.3 ∧ x25.2.4 = x11.1.2.4 ∧ x25.2.5 = x11.1.2.5 ∧ x25.2.6 = x11.1.2.6 ∧ x25.2.7 = x11.1.2.7 ∧ x25.2.8 = x11.1.2.8 ∧ True ∧ True ∧ (x25.1.2.1
= x11.1.1.2.1 ∧ x25.1.2.2 = x11.1.1.2.2 ∧ x25.1.2.3 = x11.1.1.2.3 ∧ x25.1.2.4 = x11.1.1.2.4) ∧ True) ∧ (True ∧ FlatL x25.1.1.5 ∧ x25.1.1.5 = x11.1.1.1.5) ∧ (True ∧ FlatL x25.1.2.5
∧ x25.1.2.5 = x11.1.1.2.5) ∧ (True ∧ FlatL x25.3.2 ∧ x25.3.2 = x11.1.3.2) ∧ (True ∧ FlatL x25.4.2 ∧ x25.4.2 = x11.1.4.2) ∧ (True ∧ FlatL x25.5.2 ∧ x25.5.2 = x11.1.5.2) ∧ (True ∧
(Bool.false = Bool.false ∧ nat_lit 0 = nat_lit 0 ∧ nat_lit 2 = nat_lit 2 ∧ x25.3.1 = x11.1.3.1) ∧ (Bool.false = Bool.false ∧ nat_lit 0 = nat_lit 0 ∧ nat_lit 2 = nat_lit 2 ∧ x25.4.1
= x11.1.4.1) ∧ (Bool.false = Bool.false ∧ nat_lit 0 = nat_lit 0 ∧ nat_lit 2 = nat_lit 2 ∧ x25.5.1 = x11.1.5.1) ∧ Int.ofNat (0 : Nat) = Int.ofNat (0 : Nat) ∧ Int.ofNat (0 : Nat) =
Int.ofNat (0 : Nat) ∧ Int.ofNat (0 : Nat) = Int.ofNat (0 : Nat) ∧ Int.ofNat (0 : Nat) = Int.ofNat (0 : Nat) ∧ Int.ofNat (0 : Nat) = Int.ofNat (0 : Nat) ∧ True) ∧ True) ∧ True) ∧
(¬(1125899906842624 : Int) < x11.4 → ∃ (x28 : StO), (rlF x28.1 ∧ x28.1.1.3 = (2 : Nat) ∧ x28.1.2.3 = (2 : Nat) ∧ ∃ (x29 : PX), ∃ (x30 : List Int), PH (PA.mk (SA.mk Bool.false (0 :
Nat) (2 : Nat) x28.3.1 x28.3.2) (SA.mk Bool.false (0 : Nat) (2 : Nat) x28.4.1 x28.4.2) (SA.mk Bool.false (0 : Nat) (2 : Nat) x28.5.1 x28.5.2) (0 : Int) (0 : Int) (0 : Int) (0 :
Int) (0 : Int)) x29 ∧ Sli (Value.int IntKind.i32) (2 : Nat) x28.1.2.1 x28.1.2.2 x28.1.2.3 x28.1.2.4 x28.1.2.5 x30 ∧ inAll x30 x29.1 (2 : Nat)) ∧ ((a.2.1 = a.2.1 ∧ a.2.2 = a.2.2 ∧
a.2.3 = a.2.3 ∧ a.2.4 = a.2.4) ∧ a.3 = a.3 ∧ (0 : Nat) = (0 : Nat) ∧ (0 : Nat) = (0 : Nat) ∧ True ∧ (3 : Int) = (3 : Int) ∧ (3 : Int) = x11.3 ∧ True) ∧ ((True ∧ FlatL a.2.5 ∧ a.2.5
= a.2.5) ∧ (True ∧ True ∧ (x28.1.1.1 = x11.1.1.1.1 ∧ x28.1.1.2 = x11.1.1.1.2 ∧ x28.1.1.3 = x11.1.1.1.3 ∧ x28.1.1.4 = x11.1.1.1.4) ∧ x28.2.1 = x11.1.2.1 ∧ x28.2.2 = x11.1.2.2 ∧
x28.2.3 = x11.1.2.3 ∧ x28.2.4 = x11.1.2.4 ∧ x28.2.5 = x11.1.2.5 ∧ x28.2.6 = x11.1.2.6 ∧ x28.2.7 = x11.1.2.7 ∧ x28.2.8 = x11.1.2.8 ∧ True ∧ True ∧ (x28.1.2.1 = x11.1.1.2.1 ∧
x28.1.2.2 = x11.1.1.2.2 ∧ x28.1.2.3 = x11.1.1.2.3 ∧ x28.1.2.4 = x11.1.1.2.4) ∧ True) ∧ (True ∧ FlatL x28.1.1.5 ∧ x28.1.1.5 = x11.1.1.1.5) ∧ (True ∧ FlatL x28.1.2.5 ∧ x28.1.2.5 =
x11.1.1.2.5) ∧ (True ∧ FlatL x28.3.2 ∧ x28.3.2 = x11.1.3.2) ∧ (True ∧ FlatL x28.4.2 ∧ x28.4.2 = x11.1.4.2) ∧ (True ∧ FlatL x28.5.2 ∧ x28.5.2 = x11.1.5.2) ∧ (True ∧ (Bool.false =
Bool.false ∧ nat_lit 0 = nat_lit 0 ∧ nat_lit 2 = nat_lit 2 ∧ x28.3.1 = x11.1.3.1) ∧ (Bool.false = Bool.false ∧ nat_lit 0 = nat_lit 0 ∧ nat_lit 2 = nat_lit 2 ∧ x28.4.1 = x11.1.4.1)
∧ (Bool.false = Bool.false ∧ nat_lit 0 = nat_lit 0 ∧ nat_lit 2 = nat_lit 2 ∧ x28.5.1 = x11.1.5.1) ∧ Int.ofNat (0 : Nat) = Int.ofNat (0 : Nat) ∧ Int.ofNat (0 : Nat) = Int.ofNat (0 :
Nat) ∧ Int.ofNat (0 : Nat) = Int.ofNat (0 : Nat) ∧ Int.ofNat (0 : Nat) = Int.ofNat (0 : Nat) ∧ Int.ofNat (0 : Nat) = Int.ofNat (0 : Nat) ∧ True) ∧ True) ∧ True)) ∧ (¬x11.3 = (0 :
Int) → ∃ (x31 : StO), (rlF x31.1 ∧ x31.1.1.3 = (2 : Nat) ∧ x31.1.2.3 = (2 : Nat) ∧ ∃ (x32 : PX), ∃ (x33 : List Int), PH (PA.mk (SA.mk Bool.false (0 : Nat) (2 : Nat) x31.3.1
x31.3.2) (SA.mk Bool.false (0 : Nat) (2 : Nat) x31.4.1 x31.4.2) (SA.mk Bool.false (0 : Nat) (2 : Nat) x31.5.1 x31.5.2) (0 : Int) (0 : Int) (0 : Int) (0 : Int) (0 : Int)) x32 ∧ Sli
(Value.int IntKind.i32) (2 : Nat) x31.1.2.1 x31.1.2.2 x31.1.2.3 x31.1.2.4 x31.1.2.5 x33 ∧ inAll x33 x32.1 (2 : Nat)) ∧ ((a.2.1 = a.2.1 ∧ a.2.2 = a.2.2 ∧ a.2.3 = a.2.3 ∧ a.2.4 =
a.2.4) ∧ a.3 = a.3 ∧ (0 : Nat) = (0 : Nat) ∧ (0 : Nat) = (0 : Nat) ∧ True ∧ (3 : Int) = (3 : Int) ∧ (3 : Int) = x11.3 ∧ True) ∧ ((True ∧ FlatL a.2.5 ∧ a.2.5 = a.2.5) ∧ (True ∧ True
∧ (x31.1.1.1 = x11.1.1.1.1 ∧ x31.1.1.2 = x11.1.1.1.2 ∧ x31.1.1.3 = x11.1.1.1.3 ∧ x31.1.1.4 = x11.1.1.1.4) ∧ x31.2.1 = x11.1.2.1 ∧ x31.2.2 = x11.1.2.2 ∧ x31.2.3 = x11.1.2.3 ∧
x31.2.4 = x11.1.2.4 ∧ x31.2.5 = x11.1.2.5 ∧ x31.2.6 = x11.1.2.6 ∧ x31.2.7 = x11.1.2.7 ∧ x31.2.8 = x11.1.2.8 ∧ True ∧ True ∧ (x31.1.2.1 = x11.1.1.2.1 ∧ x31.1.2.2 = x11.1.1.2.2 ∧
x31.1.2.3 = x11.1.1.2.3 ∧ x31.1.2.4 = x11.1.1.2.4) ∧ True) ∧ (True ∧ FlatL x31.1.1.5 ∧ x31.1.1.5 = x11.1.1.1.5) ∧ (True ∧ FlatL x31.1.2.5 ∧ x31.1.2.5 = x11.1.1.2.5) ∧ (True ∧ FlatL
x31.3.2 ∧ x31.3.2 = x11.1.3.2) ∧ (True ∧ FlatL x31.4.2 ∧ x31.4.2 = x11.1.4.2) ∧ (True ∧ FlatL x31.5.2 ∧ x31.5.2 = x11.1.5.2) ∧ (True ∧ (Bool.false = Bool.false ∧ nat_lit 0 =
nat_lit 0 ∧ nat_lit 2 = nat_lit 2 ∧ x31.3.1 = x11.1.3.1) ∧ (Bool.false = Bool.false ∧ nat_lit 0 = nat_lit 0 ∧ nat_lit 2 = nat_lit 2 ∧ x31.4.1 = x11.1.4.1) ∧ (Bool.false =
Bool.false ∧ nat_lit 0 = nat_lit 0 ∧ nat_lit 2 = nat_lit 2 ∧ x31.5.1 = x11.1.5.1) ∧ Int.ofNat (0 : Nat) = Int.ofNat (0 : Nat) ∧ Int.ofNat (0 : Nat) = Int.ofNat (0 : Nat) ∧
Int.ofNat (0 : Nat) = Int.ofNat (0 : Nat) ∧ Int.ofNat (0 : Nat) = Int.ofNat (0 : Nat) ∧ Int.ofNat (0 : Nat) = Int.ofNat (0 : Nat) ∧ True) ∧ True) ∧ True))) ∧ ∀ (x34 : StO), (rlF
x34.1 ∧ x34.1.1.3 = (2 : Nat) ∧ x34.1.2.3 = (2 : Nat) ∧ ∃ (x35 : PX), ∃ (x36 : List Int), PH (PA.mk (SA.mk Bool.false (0 : Nat) (2 : Nat) x34.3.1 x34.3.2) (SA.mk Bool.false (0 :
Nat) (2 : Nat) x34.4.1 x34.4.2) (SA.mk Bool.false (0 : Nat) (2 : Nat) x34.5.1 x34.5.2) (0 : Int) (0 : Int) (0 : Int) (0 : Int) (0 : Int)) x35 ∧ Sli (Value.int IntKind.i32) (2 :
Nat) x34.1.2.1 x34.1.2.2 x34.1.2.3 x34.1.2.4 x34.1.2.5 x36 ∧ inAll x36 x35.1 (2 : Nat)) → (True ∧ (∃ (x37 : PX), PH (PA.mk (SA.mk Bool.false (nat_lit 0) (nat_lit 2) x34.3.1
x34.3.2) (SA.mk Bool.false (nat_lit 0) (nat_lit 2) x34.4.1 x34.4.2) (SA.mk Bool.false (nat_lit 0) (nat_lit 2) x34.5.1 x34.5.2) (Int.ofNat (0 : Nat)) (Int.ofNat (0 : Nat))
(Int.ofNat (0 : Nat)) (Int.ofNat (0 : Nat)) (Int.ofNat (0 : Nat))) x37) ∧ nat_lit 2 ≤ (1000 : Nat) ∧ nat_lit 2 ≤ (1000 : Nat) ∧ nat_lit 2 ≤ (1000 : Nat)) ∧ ((((Bool.false =
Bool.false ∧ nat_lit 0 = nat_lit 0 ∧ nat_lit 2 = nat_lit 2 ∧ x34.3.1 = x34.3.1) ∧ (Bool.false = Bool.false ∧ nat_lit 0 = nat_lit 0 ∧ nat_lit 2 = nat_lit 2 ∧ x34.4.1 = x34.4.1) ∧
(Bool.false = Bool.false ∧ nat_lit 0 = nat_lit 0 ∧ nat_lit 2 = nat_lit 2 ∧ x34.5.1 = x34.5.1) ∧ Int.ofNat (0 : Nat) = Int.ofNat (0 : Nat) ∧ Int.ofNat (0 : Nat) = Int.ofNat (0 :
Nat) ∧ Int.ofNat (0 : Nat) = Int.ofNat (0 : Nat) ∧ Int.ofNat (0 : Nat) = Int.ofNat (0 : Nat) ∧ Int.ofNat (0 : Nat) = Int.ofNat (0 : Nat) ∧ True) ∧ True) ∧ (True ∧ FlatL x34.3.2 ∧
x34.3.2 = x34.3.2) ∧ (True ∧ FlatL x34.4.2 ∧ x34.4.2 = x34.4.2) ∧ (True ∧ FlatL x34.5.2 ∧ x34.5.2 = x34.5.2) ∧ True) ∧ (∀ (x38 : PB), (∀ (x39 : PX), PH (PA.mk (SA.mk Bool.false
(nat_lit 0) (nat_lit 2) x34.3.1 x34.3.2) (SA.mk Bool.false (nat_lit 0) (nat_lit 2) x34.4.1 x34.4.2) (SA.mk Bool.false (nat_lit 0) (nat_lit 2) x34.5.1 x34.5.2) (Int.ofNat (0 : Nat))
(Int.ofNat (0 : Nat)) (Int.ofNat (0 : Nat)) (Int.ofNat (0 : Nat)) (Int.ofNat (0 : Nat))) x39 → PH (PA.mk (SA.mk Bool.false (0 : Nat) (nat_lit 2) x38.1.1 x38.1.2) (SA.mk Bool.false
(0 : Nat) (nat_lit 2) x38.2.1 x38.2.2) (SA.mk Bool.false (0 : Nat) (nat_lit 2) x38.3.1 x38.3.2) (Int.ofNat (0 : Nat)) (Int.ofNat (0 : Nat)) (Int.ofNat (0 : Nat)) (Int.ofNat (0 :
Nat)) (Int.ofNat (0 : Nat))) x39) ∧ (Bool.false = Bool.false → List.length x38.1.2 = nat_lit 2) → (Bool.false = Bool.true → (1 : Nat) ≤ List.length [Value.iface (1000000007 : Nat)
(Value.int IntKind.i32 a.3)] ∧ ∀ (x40 : List Value), x40 = lwin [Value.iface (1000000007 : Nat) (Value.int IntKind.i32 a.3)] (0 : Nat) (1 : Nat) → ((1 : Nat) = (0 : Nat) → (True ∧
(rlF x34.1 ∧ okNw (NwA.mk x34.1 (PA.mk (SA.mk Bool.true (0 : Nat) (0 : Nat) (0 : Nat) []) (SA.mk Bool.false (0 : Nat) (nat_lit 2) x38.2.1 x38.2.2) (SA.mk Bool.false (0 : Nat)
(nat_lit 2) x38.3.1 x38.3.2) (Int.ofNat (0 : Nat)) (Int.ofNat (0 : Nat)) (Int.ofNat (0 : Nat)) (Int.ofNat (0 : Nat)) (Int.ofNat (0 : Nat))) a.2) ∧ (nat_lit 0 ≤ (1000 : Nat) ∧
nat_lit 2 ≤ (1000 : Nat) ∧ nat_lit 2 ≤ (1000 : Nat)) ∧ (∃ (x41 : List Int), Sli (Value.int IntKind.i64) (1 : Nat) a.2.1 a.2.2 a.2.3 a.2.4 a.2.5 x41) ∧ a.2.3 ≤ (1000 : Nat)) ∧
nat_lit 0 ≠ x34.1.2.3) ∧ (((0 : Nat) = (0 : Nat) ∧ ((Bool.true = Bool.true ∧ nat_lit 0 = (0 : Nat) ∧ nat_lit 0 = (0 : Nat)) ∧ (Bool.false = Bool.false ∧ nat_lit 0 = (0 : Nat) ∧
nat_lit 2 = nat_lit 2 ∧ x38.2.1 = x38.2.1) ∧ (Bool.false = Bool.false ∧ nat_lit 0 = (0 : Nat) ∧ nat_lit 2 = nat_lit 2 ∧ x38.3.1 = x38.3.1) ∧ Int.ofNat (0 : Nat) = Int.ofNat (0 :
Nat) ∧ Int.ofNat (0 : Nat) = Int.ofNat (0 : Nat) ∧ Int.ofNat (0 : Nat) = Int.ofNat (0 : Nat) ∧ Int.ofNat (0 : Nat) = Int.ofNat (0 : Nat) ∧ Int.ofNat (0 : Nat) = Int.ofNat (0 : Nat)
∧ True) ∧ (a.2.1 = a.2.1 ∧ a.2.2 = a.2.2 ∧ a.2.3 = a.2.3 ∧ a.2.4 = a.2.4) ∧ True) ∧ (True ∧ True ∧ (x34.1.1.1 = x34.1.1.1 ∧ x34.1.1.2 = x34.1.1.2 ∧ x34.1.1.3 = x34.1.1.3 ∧
x34.1.1.4 = x34.1.1.4) ∧ True ∧ True ∧ True ∧ True ∧ True ∧ True ∧ True ∧ True ∧ True ∧ True ∧ (x34.1.2.1 = x34.1.2.1 ∧ x34.1.2.2 = x34.1.2.2 ∧ x34.1.2.3 = x34.1.2.3 ∧ x34.1.2.4 =
x34.1.2.4) ∧ True) ∧ (True ∧ FlatL x34.1.1.5 ∧ x34.1.1.5 = x34.1.1.5) ∧ (True ∧ FlatL x34.1.2.5 ∧ x34.1.2.5 = x34.1.2.5) ∧ (FlatL [] ∧ True) ∧ (True ∧ FlatL x38.2.2 ∧ x38.2.2 =
x38.2.2) ∧ (True ∧ FlatL x38.3.2 ∧ x38.3.2 = x38.3.2) ∧ (True ∧ FlatL a.2.5 ∧ a.2.5 = a.2.5) ∧ True) ∧ (∀ (x42 : Unit), True → ∃ (x43 : Unit), True ∧ Bool.true = Bool.true ∧ True)
∧ True) ∧ ((1 : Nat) ≠ (0 : Nat) → Few (1 : Nat) (4 : Nat) ∧ (True ∧ (rlF x34.1 ∧ okNw (NwA.mk x34.1 (PA.mk (SA.mk Bool.false (0 : Nat) (1 : Nat) (1 : Nat) x40) (SA.mk Bool.false
(0 : Nat) (nat_lit 2) x38.2.1 x38.2.2) (SA.mk Bool.false (0 : Nat) (nat_lit 2) x38.3.1 x38.3.2) (Int.ofNat (0 : Nat)) (Int.ofNat (0 : Nat)) (Int.ofNat (0 : Nat)) (Int.ofNat (0 :
Nat)) (Int.ofNat (0 : Nat))) a.2) ∧ (nat_lit 1 ≤ (1000 : Nat) ∧ nat_lit 2 ≤ (1000 : Nat) ∧ nat_lit 2 ≤ (1000 : Nat)) ∧ (∃ (x44 : List Int), Sli (Value.int IntKind.i64) (1 : Nat)
a.2.1 a.2.2 a.2.3 a.2.4 a.2.5 x44) ∧ a.2.3 ≤ (1000 : Nat)) ∧ nat_lit 1 ≠ x34.1.2.3) ∧ (((0 : Nat) = (0 : Nat) ∧ ((Bool.false = Bool.false ∧ nat_lit 0 = (0 : Nat) ∧ nat_lit 1 = (1 :
Nat) ∧ nat_lit 1 = (1 : Nat)) ∧ (Bool.false = Bool.false ∧ nat_lit 0 = (0 : Nat) ∧ nat_lit 2 = nat_lit 2 ∧ x38.2.1 = x38.2.1) ∧ (Bool.false = Bool.false ∧ nat_lit 0 = (0 : Nat) ∧
nat_lit 2 = nat_lit 2 ∧ x38.3.1 = x38.3.1) ∧ Int.ofNat (0 : Nat) = Int.ofNat (0 : Nat) ∧ Int.ofNat (0 : Nat) = Int.ofNat (0 : Nat) ∧ Int.ofNat (0 : Nat) = Int.ofNat (0 : Nat) ∧
Int.ofNat (0 : Nat) = Int.ofNat (0 : Nat) ∧ Int.ofNat (0 : Nat) = Int.ofNat (0 : Nat) ∧ True) ∧ (a.2.1 = a.2.1 ∧ a.2.2 = a.2.2 ∧ a.2.3 = a.2.3 ∧ a.2.4 = a.2.4) ∧ True) ∧ (True ∧
True ∧ (x34.1.1.1 = x34.1.1.1 ∧ x34.1.1.2 = x34.1.1.2 ∧ x34.1.1.3 = x34.1.1.3 ∧ x34.1.1.4 = x34.1.1.4) ∧ True ∧ True ∧ True ∧ True ∧ True ∧ True ∧ True ∧ True ∧ True ∧ True ∧
(x34.1.2.1 = x34.1.2.1 ∧ x34.1.2.2 = x34.1.2.2 ∧ x34.1.2.3 = x34.1.2.3 ∧ x34.1.2.4 = x34.1.2.4) ∧ True) ∧ (True ∧ FlatL x34.1.1.5 ∧ x34.1.1.5 = x34.1.1.5) ∧ (True ∧ FlatL x34.1.2.5
∧ x34.1.2.5 = x34.1.2.5) ∧ (True ∧ FlatL x40 ∧ x40 = x40) ∧ (True ∧ FlatL x38.2.2 ∧ x38.2.2 = x38.2.2) ∧ (True ∧ FlatL x38.3.2 ∧ x38.3.2 = x38.3.2) ∧ (True ∧ FlatL a.2.5 ∧ a.2.5 =
a.2.5) ∧ True) ∧ (∀ (x45 : Unit), True → ∃ (x46 : Unit), True ∧ Bool.true = Bool.true ∧ True) ∧ True)) ∧ (Bool.false = Bool.false → (1 : Nat) ≤ List.length [Value.iface (1000000007
: Nat) (Value.int IntKind.i32 a.3)] ∧ ∀ (x47 : List Value), x47 = lwin [Value.iface (1000000007 : Nat) (Value.int IntKind.i32 a.3)] (0 : Nat) (1 : Nat) → ((0 : Nat) = (0 : Nat) ∧
List.length x38.1.2 = nat_lit 2 * (1 : Nat) ∧ x38.1.1 = x38.1.1 ∧ nat_lit 2 ≤ x38.1.1 ∧ Few (nat_lit 2 + (1 : Nat)) (4 : Nat) ∧ lall oneK x47 = Bool.true) ∧ ∀ (x48 x49 : Nat), x48
= nat_lit 2 + (1 : Nat) → (x49 = if x48 ≤ RW.k (PB.b1 x38) then x38.1.1 else x48) → (True ∧ (rlF x34.1 ∧ okNw (NwA.mk x34.1 (PA.mk (SA.mk Bool.false (0 : Nat) x48 x49 (x38.1.2 ++
x47)) (SA.mk Bool.false (0 : Nat) (nat_lit 2) x38.2.1 x38.2.2) (SA.mk Bool.false (0 : Nat) (nat_lit 2) x38.3.1 x38.3.2) (Int.ofNat (0 : Nat)) (Int.ofNat (0 : Nat)) (Int.ofNat (0 :
Nat)) (Int.ofNat (0 : Nat)) (Int.ofNat (0 : Nat))) a.2) ∧ (x48 ≤ (1000 : Nat) ∧ nat_lit 2 ≤ (1000 : Nat) ∧ nat_lit 2 ≤ (1000 : Nat)) ∧ (∃ (x50 : List Int), Sli (Value.int
IntKind.i64) (1 : Nat) a.2.1 a.2.2 a.2.3 a.2.4 a.2.5 x50) ∧ a.2.3 ≤ (1000 : Nat)) ∧ x48 ≠ x34.1.2.3) ∧ (((0 : Nat) = (0 : Nat) ∧ ((Bool.false = Bool.false ∧ nat_lit 0 = (0 : Nat) ∧
x48 = x48 ∧ x49 = x49) ∧ (Bool.false = Bool.false ∧ nat_lit 0 = (0 : Nat) ∧ nat_lit 2 = nat_lit 2 ∧ x38.2.1 = x38.2.1) ∧ (Bool.false = Bool.false ∧ nat_lit 0 = (0 : Nat) ∧ nat_lit
2 = nat_lit 2 ∧ x38.3.1 = x38.3.1) ∧ Int.ofNat (0 : Nat) = Int.ofNat (0 : Nat) ∧ Int.ofNat (0 : Nat) = Int.ofNat (0 : Nat) ∧ Int.ofNat (0 : Nat) = Int.ofNat (0 : Nat) ∧ Int.ofNat
(0 : Nat) = Int.ofNat (0 : Nat) ∧ Int.ofNat (0 : Nat) = Int.ofNat (0 : Nat) ∧ True) ∧ (a.2.1 = a.2.1 ∧ a.2.2 = a.2.2 ∧ a.2.3 = a.2.3 ∧ a.2.4 = a.2.4) ∧ True) ∧ (True ∧ True ∧
(x34.1.1.1 = x34.1.1.1 ∧ x34.1.1.2 = x34.1.1.2 ∧ x34.1.1.3 = x34.1.1.3 ∧ x34.1.1.4 = x34.1.1.4) ∧ True ∧ True ∧ True ∧ True ∧ True ∧ True ∧ True ∧ True ∧ True ∧ True ∧ (x34.1.2.1 =
x34.1.2.1 ∧ x34.1.2.2 = x34.1.2.2 ∧ x34.1.2.3 = x34.1.2.3 ∧ x34.1.2.4 = x34.1.2.4) ∧ True) ∧ (True ∧ FlatL x34.1.1.5 ∧ x34.1.1.5 = x34.1.1.5) ∧ (True ∧ FlatL x34.1.2.5 ∧ x34.1.2.5
= x34.1.2.5) ∧ (True ∧ FlatL (x38.1.2 ++ x47) ∧ x38.1.2 ++ x47 = x38.1.2 ++ x47) ∧ (True ∧ FlatL x38.2.2 ∧ x38.2.2 = x38.2.2) ∧ (True ∧ FlatL x38.3.2 ∧ x38.3.2 = x38.3.2) ∧ (True ∧
FlatL a.2.5 ∧ a.2.5 = a.2.5) ∧ True) ∧ (∀ (x51 : Unit), True → ∃ (x52 : Unit), True ∧ Bool.true = Bool.true ∧ True) ∧ True)) ∧ True)) ∧ True) ∧ True)) ∧ True) := by kernel_rfl
theorem vc_none2 (a : NnA) (xs : List Int) : G_none2 a xs = ((True ∧ True) ∧ (True ∧ (True ∧ FlatL cells0 ∧ cells0 = cells0) ∧ (True ∧ FlatL cells1 ∧ cells1 = cells1) ∧ (True ∧ FlatL cells2 ∧ cells2 = cells2) ∧ (True ∧ FlatL cells4 ∧ cells4
= cells4) ∧ (True ∧ FlatL cells5 ∧ cells5 = cells5) ∧ (True ∧ FlatL cells6 ∧ cells6 = cells6) ∧ (True ∧ FlatL cells8 ∧ cells8 = cells8) ∧ (True ∧ FlatL cells9 ∧ cells9 = cells9) ∧
(True ∧ FlatL cells10 ∧ cells10 = cells10) ∧ True) ∧ (∀ (x0 : Unit), True → ∀ (x1 : Int), x1 = (↑a.2.3 : Int) → ((10 : Int) < x1 → (True ∧ True) ∧ (True ∧ (True ∧ FlatL cells0 ∧
cells0 = cells0) ∧ (True ∧ FlatL cells1 ∧ cells1 = cells1) ∧ (True ∧ FlatL cells2 ∧ cells2 = cells2) ∧ (True ∧ FlatL cells4 ∧ cells4 = cells4) ∧ (True ∧ FlatL cells5 ∧ cells5 =
cells5) ∧ (True ∧ FlatL cells6 ∧ cells6 = cells6) ∧ (True ∧ FlatL cells8 ∧ cells8 = cells8) ∧ (True ∧ FlatL cells9 ∧ cells9 = cells9) ∧ (True ∧ FlatL cells10 ∧ cells10 = cells10) ∧
True) ∧ (∀ (x2 : Unit), True → ∃ (x3 : Unit), True ∧ Bool.true = Bool.true ∧ True) ∧ True) ∧ (¬(10 : Int) < x1 → (True ∧ (0 : Int) ≤ a.1 ∧ a.1 < (256 : Int)) ∧ ((a.1 = a.1 ∧ True)
∧ (True ∧ FlatL cells0 ∧ cells0 = cells0) ∧ (True ∧ FlatL cells1 ∧ cells1 = cells1) ∧ (True ∧ FlatL cells2 ∧ cells2 = cells2) ∧ (True ∧ FlatL cells4 ∧ cells4 = cells4) ∧ (True ∧
FlatL cells5 ∧ cells5 = cells5) ∧ (True ∧ FlatL cells6 ∧ cells6 = cells6) ∧ (True ∧ FlatL cells8 ∧ cells8 = cells8) ∧ (True ∧ FlatL cells9 ∧ cells9 = cells9) ∧ (True ∧ FlatL
cells10 ∧ cells10 = cells10) ∧ True) ∧ (∀ (x4 : StO), (rlF x4.1 ∧ x4.1.1.3 = (2 : Nat) ∧ x4.1.2.3 = (2 : Nat) ∧ ∃ (x5 : PX), ∃ (x6 : List Int), PH (PA.mk (SA.mk Bool.false (0 :
Nat) (2 : Nat) x4.3.1 x4.3.2) (SA.mk Bool.false (0 : Nat) (2 : Nat) x4.4.1 x4.4.2) (SA.mk Bool.false (0 : Nat) (2 : Nat) x4.5.1 x4.5.2) (0 : Int) (0 : Int) (0 : Int) (0 : Int) (0 :
Int)) x5 ∧ Sli (Value.int IntKind.i32) (2 : Nat) x4.1.2.1 x4.1.2.2 x4.1.2.3 x4.1.2.4 x4.1.2.5 x6 ∧ inAll x6 x5.1 (2 : Nat)) → (True ∧ (rlF x4.1 ∧ okNw (NwA.mk x4.1 (PA.mk (SA.mk
Bool.false (nat_lit 0) (nat_lit 2) x4.3.1 x4.3.2) (SA.mk Bool.false (nat_lit 0) (nat_lit 2) x4.4.1 x4.4.2) (SA.mk Bool.false (nat_lit 0) (nat_lit 2) x4.5.1 x4.5.2) (Int.ofNat (0 :
Nat)) (Int.ofNat (0 : Nat)) (Int.ofNat (0 : Nat)) (Int.ofNat (0 : Nat)) (Int.ofNat (0 : Nat))) a.2) ∧ (nat_lit 2 ≤ (1000 : Nat) ∧ nat_lit 2 ≤ (1000 : Nat) ∧ nat_lit 2 ≤ (1000 :
Nat)) ∧ (∃ (x7 : List Int), Sli (Value.int IntKind.i64) (1 : Nat) a.2.1 a.2.2 a.2.3 a.2.4 a.2.5 x7) ∧ a.2.3 ≤ (1000 : Nat)) ∧ nat_lit 2 = x4.1.2.3 ∧ cond2 (NwA.mk x4.1 (PA.mk
(SA.mk Bool.false (nat_lit 0) (nat_lit 2) x4.3.1 x4.3.2) (SA.mk Bool.false (nat_lit 0) (nat_lit 2) x4.4.1 x4.4.2) (SA.mk Bool.false (nat_lit 0) (nat_lit 2) x4.5.1 x4.5.2)
(Int.ofNat (0 : Nat)) (Int.ofNat (0 : Nat)) (Int.ofNat (0 : Nat)) (Int.ofNat (0 : Nat)) (Int.ofNat (0 : Nat))) a.2)) ∧ (((0 : Nat) = (0 : Nat) ∧ ((Bool.false = Bool.false ∧ nat_lit
0 = nat_lit 0 ∧ nat_lit 2 = nat_lit 2 ∧ x4.3.1 = x4.3.1) ∧ (Bool.false = Bool.false ∧ nat_lit 0 = nat_lit 0 ∧ nat_lit 2 = nat_lit 2 ∧ x4.4.1 = x4.4.1) ∧ (Bool.false = Bool.false ∧
nat_lit 0 = nat_lit 0 ∧ nat_lit 2 = nat_lit 2 ∧ x4.5.1 = x4.5.1) ∧ Int.ofNat (0 : Nat) = Int.ofNat (0 : Nat) ∧ Int.ofNat (0 : Nat) = Int.ofNat (0 : Nat) ∧ Int.ofNat (0 : Nat) =
Int.ofNat (0 : Nat) ∧ Int.ofNat (0 : Nat) = Int.ofNat (0 : Nat) ∧ Int.ofNat (0 : Nat) = Int.ofNat (0 : Nat) ∧ True) ∧ (a.2.1 = a.2.1 ∧ a.2.2 = a.2.2 ∧ a.2.3 = a.2.3 ∧ a.2.4 =
a.2.4) ∧ True) ∧ (True ∧ True ∧ (x4.1.1.1 = x4.1.1.1 ∧ x4.1.1.2 = x4.1.1.2 ∧ x4.1.1.3 = x4.1.1.3 ∧ x4.1.1.4 = x4.1.1.4) ∧ True ∧ True ∧ True ∧ True ∧ True ∧ True ∧ True ∧ True ∧
True ∧ True ∧ (x4.1.2.1 = x4.1.2.1 ∧ x4.1.2.2 = x4.1.2.2 ∧ x4.1.2.3 = x4.1.2.3 ∧ x4.1.2.4 = x4.1.2.4) ∧ True) ∧ (True ∧ FlatL x4.1.1.5 ∧ x4.1.1.5 = x4.1.1.5) ∧ (True ∧ FlatL
x4.1.2.5 ∧ x4.1.2.5 = x4.1.2.5) ∧ (True ∧ FlatL x4.3.2 ∧ x4.3.2 = x4.3.2) ∧ (True ∧ FlatL x4.4.2 ∧ x4.4.2 = x4.4.2) ∧ (True ∧ FlatL x4.5.2 ∧ x4.5.2 = x4.5.2) ∧ (True ∧ FlatL a.2.5
∧ a.2.5 = a.2.5) ∧ True) ∧ (∀ (x8 : Unit), True → ∀ (x9 : Int), x9 = (↑a.2.3 : Int) → (∃ (x10 : NnM), ((((0 : Int) ≤ x10.2 ∧ x10.2 ≤ (↑a.2.3 : Int)) ∧ x10.3 = wantR (List.take
(Int.toNat x10.2) xs)) ∧ okSt x10.1) ∧ (((a.2.1 = a.2.1 ∧ a.2.2 = a.2.2 ∧ a.2.3 = a.2.3 ∧ a.2.4 = a.2.4) ∧ a.3 = a.3 ∧ (0 : Nat) = (0 : Nat) ∧ (0 : Nat) = (0 : Nat) ∧ True ∧ (2 :
Int) = (2 : Int) ∧ x10.3 = (0 : Int) ∧ x10.4 = (0 : Int) ∧ (a.2.1 = a.2.1 ∧ a.2.2 = a.2.2 ∧ a.2.3 = a.2.3 ∧ a.2.4 = a.2.4) ∧ (↑a.2.3 : Int) = x9 ∧ x10.2 = (0 : Int) ∧ True) ∧
((True ∧ FlatL a.2.5 ∧ a.2.5 = a.2.5) ∧ (True ∧ True ∧ (x10.1.1.1.1 = x4.1.1.1 ∧ x10.1.1.1.2 = x4.1.1.2 ∧ x10.1.1.1.3 = x4.1.1.3 ∧ x10.1.1.1.4 = x4.1.1.4) ∧ x10.1.2.1 = x4.2.1 ∧
x10.1.2.2 = x4.2.2 ∧ x10.1.2.3 = x4.2.3 ∧ x10.1.2.4 = x4.2.4 ∧ x10.1.2.5 = x4.2.5 ∧ x10.1.2.6 = x4.2.6 ∧ x10.1.2.7 = x4.2.7 ∧ x10.1.2.8 = x4.2.8 ∧ True ∧ True ∧ (x10.1.1.2.1 =
x4.1.2.1 ∧ x10.1.1.2.2 = x4.1.2.2 ∧ x10.1.1.2.3 = x4.1.2.3 ∧ x10.1.1.2.4 = x4.1.2.4) ∧ True) ∧ (True ∧ FlatL x10.1.1.1.5 ∧ x10.1.1.1.5 = x4.1.1.5) ∧ (True ∧ FlatL x10.1.1.2.5 ∧
x10.1.1.2.5 = x4.1.2.5) ∧ (True ∧ FlatL x10.1.3.2 ∧ x10.1.3.2 = x4.3.2) ∧ (True ∧ FlatL x10.1.4.2 ∧ x10.1.4.2 = x4.4.2) ∧ (True ∧ FlatL x10.1.5.2 ∧ x10.1.5.2 = x4.5.2) ∧ (True ∧
(Bool.false = Bool.false ∧ nat_lit 0 = nat_lit 0 ∧ nat_lit 2 = nat_lit 2 ∧ x10.1.3.1 = x4.3.1) ∧ (Bool.false = Bool.false ∧ nat_lit 0 = nat_lit 0 ∧ nat_lit 2 = nat_lit 2 ∧
x10.1.4.1 = x4.4.1) ∧ (Bool.false = Bool.false ∧ nat_lit 0 = nat_lit 0 ∧ nat_lit 2 = nat_lit 2 ∧ x10.1.5.1 = x4.5.1) ∧ Int.ofNat (0 : Nat) = Int.ofNat (0 : Nat) ∧ Int.ofNat (0 :
Nat) = Int.ofNat (0 : Nat) ∧ Int.ofNat (0 : Nat) = Int.ofNat (0 : Nat) ∧ Int.ofNat (0 : Nat) = Int.ofNat (0 : Nat) ∧ Int.ofNat (0 : Nat) = Int.ofNat (0 : Nat) ∧ True) ∧ True) ∧
True) ∧ ∀ (x11 : NnM), (((0 : Int) ≤ x11.2 ∧ x11.2 ≤ (↑a.2.3 : Int)) ∧ x11.3 = wantR (List.take (Int.toNat x11.2) xs)) ∧ okSt x11.1 → (x11.2 < (↑a.2.3 : Int) → ((0 : Int) ≤ x11.2 ∧
x11.2 < (↑a.2.3 : Int)) ∧ ∀ (x12 : Nat), x12 = a.2.2 + Int.toNat x11.2 * (1 : Nat) → ∃ (x13 : Int), Rd a.2.5 (Nat.add x12 (0 : Nat)) (Value.int IntKind.i64 x13) ∧ (x13 < (0 : Int)
→ ∀ (x14 : Int), x14 = IntKind.wrap IntKind.i64 (x11.2 + (1 : Int)) → ∃ (x15 : NnM), ((((0 : Int) ≤ x15.2 ∧ x15.2 ≤ (↑a.2.3 : Int)) ∧ x15.3 = wantR (List.take (Int.toNat x15.2)
xs)) ∧ okSt x15.1) ∧ Int.toNat ((↑a.2.3 : Int) - x15.2) < Int.toNat ((↑a.2.3 : Int) - x11.2) ∧ ((a.2.1 = a.2.1 ∧ a.2.2 = a.2.2 ∧ a.2.3 = a.2.3 ∧ a.2.4 = a.2.4) ∧ a.3 = a.3 ∧ (0 :
Nat) = (0 : Nat) ∧ (0 : Nat) = (0 : Nat) ∧ True ∧ (2 : Int) = (2 : Int) ∧ x15.3 = (2 : Int) ∧ x15.4 = x11.4 ∧ (a.2.1 = a.2.1 ∧ a.2.2 = a.2.2 ∧ a.2.3 = a.2.3 ∧ a.2.4 = a.2.4) ∧
(↑a.2.3 : Int) = (↑a.2.3 : Int) ∧ x15.2 = x14 ∧ True) ∧ ((True ∧ FlatL a.2.5 ∧ a.2.5 = a.2.5) ∧ (True ∧ True ∧ (x15.1.1.1.1 = x11.1.1.1.1 ∧ x15.1.1.1.2 = x11.1.1.1.2 ∧ x15.1.1.1.3
= x11.1.1.1.3 ∧ x15.1.1.1.4 = x11.1.1.1.4) ∧ x15.1.2.1 = x11.1.2.1 ∧ x15.1.2.2 = x11.1.2.2 ∧ x15.1.2.3 = x11.1.2.3 ∧ x15.1.2.4 = x11.1.2.4 ∧ x15.1.2.5 = x11.1.2.5 ∧ x15.1.2.6 =
x11.1.2.6 ∧ x15.1.2.7 = x11.1.2.7 ∧ x15.1.2.8 = x11.1.2.8 ∧ True ∧ True ∧ (x15.1.1.2.1 = x11.1.1.2.1 ∧ x15.1.1.2.2 = x11.1.1.2.2 ∧ x15.1.1.2.3 = x11.1.1.2.3 ∧ x15.1.1.2.4 =
x11.1.1.2.4) ∧ True) ∧ (True ∧ FlatL x15.1.1.1.5 ∧ x15.1.1.1.5 = x11.1.1.1.5) ∧ (True ∧ FlatL x15.1.1.2.5 ∧ x15.1.1.2.5 = x11.1.1.2.5) ∧ (True ∧ FlatL x15.1.3.2 ∧ x15.1.3.2 =
x11.1.3.2) ∧ (True ∧ FlatL x15.1.4.2 ∧ x15.1.4.2 = x11.1.4.2) ∧ (True ∧ FlatL x15.1.5.2 ∧ x15.1.5.2 = x11.1.5.2) ∧ (True ∧ (Bool.false = Bool.false ∧ nat_lit 0 = nat_lit 0 ∧
nat_lit 2 = nat_lit 2 ∧ x15.1.3.1 = x11.1.3.1) ∧ (Bool.false = Bool.false ∧ nat_lit 0 = nat_lit 0 ∧ nat_lit 2 = nat_lit 2 ∧ x15.1.4.1 = x11.1.4.1) ∧ (Bool.false = Bool.false ∧
nat_lit 0 = nat_lit 0 ∧ nat_lit 2 = nat_lit 2 ∧ x15.1.5.1 = x11.1.5.1) ∧ Int.ofNat (0 : Nat) = Int.ofNat (0 : Nat) ∧ Int.ofNat (0 : Nat) = Int.ofNat (0 : Nat) ∧ Int.ofNat (0 : Nat)
= Int.ofNat (0 : Nat) ∧ Int.ofNat (0 : Nat) = Int.ofNat (0 : Nat) ∧ Int.ofNat (0 : Nat) = Int.ofNat (0 : Nat) ∧ True) ∧ True) ∧ True) ∧ (¬x13 < (0 : Int) → ((1125899906842624 :
Int) < x13 → ∀ (x16 : Int), x16 = IntKind.wrap IntKind.i64 (x11.2 + (1 : Int)) → ∃ (x17 : NnM), ((((0 : Int) ≤ x17.2 ∧ x17.2 ≤ (↑a.2.3 : Int)) ∧ x17.3 = wantR (List.take (Int.toNat
x17.2) xs)) ∧ okSt x17.1) ∧ Int.toNat ((↑a.2.3 : Int) - x17.2) < Int.toNat ((↑a.2.3 : Int) - x11.2) ∧ ((a.2.1 = a.2.1 ∧ a.2.2 = a.2.2 ∧ a.2.3 = a.2.3 ∧ a.2.4 = a.2.4) ∧ a.3 = a.3 ∧
(0 : Nat) = (0 : Nat) ∧ (0 : Nat) = (0 : Nat) ∧ True ∧ (2 : Int) = (2 : Int) ∧ x17.3 = (2 : Int) ∧ x17.4 = x11.4 ∧ (a.2.1 = a.2.1 ∧ a.2.2 = a.2.2 ∧ a.2.3 = a.2.3 ∧ a.2.4 = a.2.4) ∧
(↑a.2.3 : Int) = (↑a.2.3 : Int) ∧ x17.2 = x16 ∧ True) ∧ ((True ∧ FlatL a.2.5 ∧ a.2.5 = a.2.5) ∧ (True ∧ True ∧ (x17.1.1.1.1 = x11.1.1.1.1 ∧ x17.1.1.1.2 = x11.1.1.1.2 ∧ x17.1.1.1.3
= x11.1.1.1.3 ∧ x17.1.1.1.4 = x11.1.1.1.4) ∧ x17.1.2.1 = x11.1.2.1 ∧ x17.1.2.2 = x11.1.2.2 ∧ x17.1.2.3 = x11.1.2.3 ∧ x17.1.2.4 = x11.1.2.4 ∧ x17.1.2.5 = x11.1.2.5 ∧ x17.1.2.6 =
x11.1.2.6 ∧ x17.1.2.7 = x11.1.2.7 ∧ x17.1.2.8 = x11.1.2.8 ∧ True ∧ True ∧ (x17.1.1.2.1 = x11.1.1.2.1 ∧ x17.1.1.2.2 = x11.1.1.2.2 ∧ x17.1.1.2.3 = x11.1.1.2.3 ∧ x17.1.1.2.4 =
x11.1.1.2.4) ∧ True) ∧ (True ∧ FlatL x17.1.1.1.5 ∧ x17.1.1.1.5 = x11.1.1.1.5) ∧ (True ∧ FlatL x17.1.1.2.5 ∧ x17.1.1.2.5 = x11.1.1.2.5) ∧ (True ∧ FlatL x17.1.3.2 ∧ x17.1.3.2 =
x11.1.3.2) ∧ (True ∧ FlatL x17.1.4.2 ∧ x17.1.4.2 = x11.1.4.2) ∧ (True ∧ FlatL x17.1.5.2 ∧ x17.1.5.2 = x11.1.5.2) ∧ (True ∧ (Bool.false = Bool.false ∧ nat_lit 0 = nat_lit 0 ∧
nat_lit 2 = nat_lit 2 ∧ x17.1.3.1 = x11.1.3.1) ∧ (Bool.false = Bool.false ∧ nat_lit 0 = nat_lit 0 ∧ nat_lit 2 = nat_lit 2 ∧ x17.1.4.1 = x11.1.4.1) ∧ (Bool.false = Bool.false ∧
nat_lit 0 = nat_lit 0 ∧ nat_lit 2 = nat_lit 2 ∧ x17.1.5.1 = x11.1.5.1) ∧ Int.ofNat (0 : Nat) = Int.ofNat (0 : Nat) ∧ Int.ofNat (0 : Nat) = Int.ofNat (0 : Nat) ∧ Int.ofNat (0 : Nat)
= Int.ofNat (0 : Nat) ∧ Int.ofNat (0 : Nat) = Int.ofNat (0 : Nat) ∧ Int.ofNat (0 : Nat) = Int.ofNat (0 : Nat) ∧ True) ∧ True) ∧ True) ∧ (¬(1125899906842624 : Int) < x13 → ∀ (x18 :
Int), x18 = IntKind.wrap IntKind.i64 (x11.4 + x13) → ∀ (x19 : Int), x19 = IntKind.wrap IntKind.i64 (x11.2 + (1 : Int)) → ∃ (x20 : NnM), ((((0 : Int) ≤ x20.2 ∧ x20.2 ≤ (↑a.2.3 :
Int)) ∧ x20.3 = wantR (List.take (Int.toNat x20.2) xs)) ∧ okSt x20.1) ∧ Int.toNat ((↑a.2.3 : Int) - x20.2) < Int.toNat ((↑a.2.3 : Int) - x11.2) ∧ ((a.2.1 = a.2.1 ∧ a.2.2 = a.2.2 ∧
a.2.3 = a.2.3 ∧ a.2.4 = a.2.4) ∧ a.3 = a.3 ∧ (0 : Nat) = (0 : Nat) ∧ (0 : Nat) = (0 : Nat) ∧ True ∧ (2 : Int) = (2 : Int) ∧ x20.3 = x11.3 ∧ x20.4 = x18 ∧ (a.2.1 = a.2.1 ∧ a.2.2 =
a.2.2 ∧ a.2.3 = a.2.3 ∧ a.2.4 = a.2.4) ∧ (↑a.2.3 : Int) = (↑a.2.3 : Int) ∧ x20.2 = x19 ∧ True) ∧ ((True ∧ FlatL a.2.5 ∧ a.2.5 = a.2.5) ∧ (True ∧ True ∧ (x20.1.1.1.1 = x11.1.1.1.1 ∧
x20.1.1.1.2 = x11.1.1.1.2 ∧ x20.1.1.1.3 = x11.1.1.1.3 ∧ x20.1.1.1.4 = x11.1.1.1.4) ∧ x20.1.2.1 = x11.1.2.1 ∧ x20.1.2.2 = x11.1.2.2 ∧ x20.1.2.3 = x11.1.2.3 ∧ x20.1.2.4 = x11.1.2.4 ∧
x20.1.2.5 = x11.1.2.5 ∧ x20.1.2.6 = x11.1.2.6 ∧ x20.1.2.7 = x11.1.2.7 ∧ x20.1.2.8 = x11.1.2.8 ∧ True ∧ True ∧ (x20.1.1.2.1 = x11.1.1.2.1 ∧ x20.1.1.2.2 = x11.1.1.2.2 ∧ x20.1.1.2.3 =
x11.1.1.2.3 ∧ x20.1.1.2.4 = x11.1.1.2.4) ∧ True) ∧ (True ∧ FlatL x20.1.1.1.5 ∧ x20.1.1.1.5 = x11.1.1.1.5) ∧ (True ∧ FlatL x20.1.1.2.5 ∧ x20.1.1.2.5 = x11.1.1.2.5) ∧ (True ∧ FlatL
x20.1.3.2 ∧ x20.1.3.2 = x11.1.3.2) ∧ (True ∧ FlatL x20.1.4.2 ∧ x20.1.4.2 = x11.1.4.2) ∧ (True ∧ FlatL x20.1.5.2 ∧ x20.1.5.2 = x11.1.5.2) ∧ (True ∧ (Bool.false = Bool.false ∧
nat_lit 0 = nat_lit 0 ∧ nat_lit 2 = nat_lit 2 ∧ x20.1.3.1 = x11.1.3.1) ∧ (Bool.false = Bool.false ∧ nat_lit 0 = nat_lit 0 ∧ nat_lit 2 = nat_lit 2 ∧ x20.1.4.1 = x11.1.4.1) ∧
(Bool.false = Bool.false ∧ nat_lit 0 = nat_lit 0 ∧ nat_lit 2 = nat_lit 2 ∧ x20.1.5.1 = x11.1.5.1) ∧ Int.ofNat (0 : Nat) = Int.ofNat (0 : Nat) ∧ Int.ofNat (0 : Nat) = Int.ofNat (0 :
Nat) ∧ Int.ofNat (0 : Nat) = Int.ofNat (0 : Nat) ∧ Int.ofNat (0 : Nat) = Int.ofNat (0 : Nat) ∧ Int.ofNat (0 : Nat) = Int.ofNat (0 : Nat) ∧ True) ∧ True) ∧ True))) ∧ (¬x11.2 <
(↑a.2.3 : Int) → ∃ (x21 : NnM), (rlF x21.1.1 ∧ x21.1.1.1.3 = (2 : Nat) ∧ x21.1.1.2.3 = (2 : Nat) ∧ ∃ (x22 : PX), ∃ (x23 : List Int), PH (PA.mk (SA.mk Bool.false (0 : Nat) (2 : Nat)
x21.1.3.1 x21.1.3.2) (SA.mk Bool.false (0 : Nat) (2 : Nat) x21.1.4.1 x21.1.4.2) (SA.mk Bool.false (0 : Nat) (2 : Nat) x21.1.5.1 x21.1.5.2) (0 : Int) (0 : Int) (0 : Int) (0 : Int)
(0 : Int)) x22 ∧ Sli (Value.int IntKind.i32) (2 : Nat) x21.1.1.2.1 x21.1.1.2.2 x21.1.1.2.3 x21.1.1.2.4 x21.1.1.2.5 x23 ∧ inAll x23 x22.1 (2 : Nat)) ∧ ((a.2.1 = a.2.1 ∧ a.2.2 =
a.2.2 ∧ a.2.3 = a.2.3 ∧ a.2.4 = a.2.4) ∧ a.3 = a.3 ∧ (0 : Nat) = (0 : Nat) ∧ (0 : Nat) = (0 : Nat) ∧ True ∧ (2 : Int) = (2 : Int) ∧ (2 : Int) = x11.3 ∧ x21.4 = x11.4 ∧ True) ∧
((True ∧ FlatL a.2.5 ∧ a.2.5 = a.2.5) ∧ (True ∧ True ∧ (x21.1.1.1.1 = x11.1.1.1.1 ∧ x21.1.1.1.2 = x11.1.1.1.2 ∧ x21.1.1.1.3 = x11.1.1.1.3 ∧ x21.1.1.1.4 = x11.1.1.1.4) ∧ x21.1.2.1 =
x11.1.2.1 ∧ x21.1.2.2 = x11.1.2.2 ∧ x21.1.2.3 = x11.1.2.3 ∧ x21.1.2.4 = x11.1.2.4 ∧ x21.1.2.5 = x11.1.2.5 ∧ x21.1.2.6 = x11.1.2.6 ∧ x21.1.2.7 = x11.1.2.7 ∧ x21.1.2.8 = x11.1.2.8 ∧
True ∧ True ∧ (x21.1.1.2.1 = x11.1.1.2.1 ∧ x21.1.1.2.2 = x11.1.1.2.2 ∧ x21.1.1.2.3 = x11.1.1.2.3 ∧ x21.1.1.2.4 = x11.1.1.2.4) ∧ True) ∧ (True ∧ FlatL x21.1.1.1.5 ∧ x21.1.1.1.5 =
x11.1.1.1.5) ∧ (True ∧ FlatL x21.1.1.2.5 ∧ x21.1.1.2.5 = x11.1.1.2.5) ∧ (True ∧ FlatL x21.1.3.2 ∧ x21.1.3.2 = x11.1.3.2) ∧ (True ∧ FlatL x21.1.4.2 ∧ x21.1.4.2 = x11.1.4.2) ∧ (True
∧ FlatL x21.1.5.2 ∧ x21.1.5.2 = x11.1.5.2) ∧ (True ∧ (Bool.false = Bool.false ∧ nat_lit 0 = nat_lit 0 ∧ nat_lit 2 = nat_lit 2 ∧ x21.1.3.1 = x11.1.3.1) ∧ (Bool.false = Bool.false ∧
nat_lit 0 = nat_lit 0 ∧ nat_lit 2 = nat_lit 2 ∧ x21.1.4.1 = x11.1.4.1) ∧ (Bool.false = Bool.false ∧ nat_lit 0 = nat_lit 0 ∧ nat_lit 2 = nat_lit 2 ∧ x21.1.5.1 = x11.1.5.1) ∧
Int.ofNat (0 : Nat) = Int.ofNat (0 : Nat) ∧ Int.ofNat (0 : Nat) = Int.ofNat (0 : Nat) ∧ Int.ofNat (0 : Nat) = Int.ofNat (0 : Nat) ∧ Int.ofNat (0 : Nat) = Int.ofNat (0 : Nat) ∧
Int.ofNat (0 : Nat) = Int.ofNat (0 : Nat) ∧ True) ∧ True) ∧ True)) ∧ ∀ (x24 : NnM), (rlF x24.1.1 ∧ x24.1.1.1.3 = (2 : Nat) ∧ x24.1.1.2.3 = (2 : Nat) ∧ ∃ (x25 : PX), ∃ (x26 : List
Int), PH (PA.mk (SA.mk Bool.false (0 : Nat) (2 : Nat) x24.1.3.1 x24.1.3.2) (SA.mk Bool.false (0 : Nat) (2 : Nat) x24.1.4.1 x24.1.4.2) (SA.mk Bool.false (0 : Nat) (2 : Nat)
x24.1.5.1 x24.1.5.2) (0 : Int) (0 : Int) (0 : Int) (0 : Int) (0 : Int)) x25 ∧ Sli (Value.int IntKind.i32) (2 : Nat) x24.1.1.2.1 x24.1.1.2.2 x24.1.1.2.3 x24.1.1.2.4 x24.1.1.2.5 x26
∧ inAll x26 x25.1 (2 : Nat)) → (∀ (x27 : Int), x27 = (↑a.2.3 : Int) → (x27 ≠ (2 : Int) → ∃ (x28 : StO), (rlF x28.1 ∧ x28.1.1.3 = (2 : Nat) ∧ x28.1.2.3 = (2 : Nat) ∧ ∃ (x29 : PX), ∃
(x30 : List Int), PH (PA.mk (SA.mk Bool.false (0 : Nat) (2 : Nat) x28.3.1 x28.3.2) (SA.mk Bool.false (0 : Nat) (2 : Nat) x28.4.1 x28.4.2) (SA.mk Bool.false (0 : Nat) (2 : Nat)
x28.5.1 x28.5.2) (0 : Int) (0 : Int) (0 : Int) (0 : Int) (0 : Int)) x29 ∧ Sli (Value.int IntKind.i32) (2 : Nat) x28.1.2.1 x28.1.2.2 x28.1.2.3 x28.1.2.4 x28.1.2.5 x30 ∧ inAll x30
x29.1 (2 : Nat)) ∧ ((a.2.1 = a.2.1 ∧ a.2.2 = a.2.2 ∧ a.2.3 = a.2.3 ∧ a.2.4 = a.2.4) ∧ a.3 = a.3 ∧ (0 : Nat) = (0 : Nat) ∧ (0 : Nat) = (0 : Nat) ∧ True ∧ (2 : Int) = (2 : Int) ∧ (2
: Int) = (3 : Int) ∧ True) ∧ ((True ∧ FlatL a.2.5 ∧ a.2.5 = a.2.5) ∧ (True ∧ True ∧ (x28.1.1.1 = x24.1.1.1.1 ∧ x28.1.1.2 = x24.1.1.1.2 ∧ x28.1.1.3 = x24.1.1.1.3 ∧ x28.1.1.4 =
x24.1.1.1.4) ∧ x28.2.1 = x24.1.2.1 ∧ x28.2.2 = x24.1.2.2 ∧ x28.2.3 = x24.1.2.3 ∧ x28.2.4 = x24.1.2.4 ∧ x28.2.5 = x24.1.2.5 ∧ x28.2.6 = x24.1.2.6 ∧ x28.2.7 = x24.1.2.7 ∧ x28.2.8 =
x24.1.2.8 ∧ True ∧ True ∧ (x28.1.2.1 = x24.1.1.2.1 ∧ x28.1.2.2 = x24.1.1.2.2 ∧ x28.1.2.3 = x24.1.1.2.3 ∧ x28.1.2.4 = x24.1.1.2.4) ∧ True) ∧ (True ∧ FlatL x28.1.1.5 ∧ x28.1.1.5 =
x24.1.1.1.5) ∧ (True ∧ FlatL x28.1.2.5 ∧ x28.1.2.5 = x24.1.1.2.5) ∧ (True ∧ FlatL x28.3.2 ∧ x28.3.2 = x24.1.3.2) ∧ (True ∧ FlatL x28.4.2 ∧ x28.4.2 = x24.1.4.2) ∧ (True ∧ FlatL
x28.5.2 ∧ x28.5.2 = x24.1.5.2) ∧ (True ∧ (Bool.false = Bool.false ∧ nat_lit 0 = nat_lit 0 ∧ nat_lit 2 = nat_lit 2 ∧ x28.3.1 = x24.1.3.1) ∧ (Bool.false = Bool.false ∧ nat_lit 0 =
nat_lit 0 ∧ nat_lit 2 = nat_lit 2 ∧ x28.4.1 = x24.1.4.1) ∧ (Bool.false = Bool.false ∧ nat_lit 0 = nat_lit 0 ∧ nat_lit 2 = nat_lit 2 ∧ x28.5.1 = x24.1.5.1) ∧ Int.ofNat (0 : Nat) =
Int.ofNat (0 : Nat) ∧ Int.ofNat (0 : Nat) = Int.ofNat (0 : Nat) ∧ Int.ofNat (0 : Nat) = Int.ofNat (0 : Nat) ∧ Int.ofNat (0 : Nat) = Int.ofNat (0 : Nat) ∧ Int.ofNat (0 : Nat) =
Int.ofNat (0 : Nat) ∧ True) ∧ True) ∧ True) ∧ (¬x27 ≠ (2 : Int) → ∃ (x31 : StO), (rlF x31.1 ∧ x31.1.1.3 = (2 : Nat) ∧ x31.1.2.3 = (2 : Nat) ∧ ∃ (x32 : PX), ∃ (x33 : List Int), PH
(PA.mk (SA.mk Bool.false (0 : Nat) (2 : Nat) x31.3.1 x31.3.2) (SA.mk Bool.false (0 : Nat) (2 : Nat) x31.4.1 x31.4.2) (SA.mk Bool.false (0 : Nat) (2 : Nat) x31.5.1 x31.5.2) (0 :
Int) (0 : Int) (0 : Int) (0 : Int) (0 : Int)) x32 ∧ Sli (Value.int IntKind.i32) (2 : Nat) x31.1.2.1 x31.1.2.2 x31.1.2.3 x31.1.2.4 x31.1.2.5 x33 ∧ inAll x33 x32.1 (2 : Nat)) ∧
((a.2.1 = a.2.1 ∧ a.2.2 = a.2.2 ∧ a.2.3 = a.2.3 ∧ a.2.4 = a.2.4) ∧ a.3 = a.3 ∧ (0 : Nat) = (0 : Nat) ∧ (0 : Nat) = (0 : Nat) ∧ True ∧ (2 : Int) = (2 : Int) ∧ (2 : Int) = (2 : Int)
∧ True) ∧ ((True ∧ FlatL a.2.5 ∧ a.2.5 = a.2.5) ∧ (True ∧ True ∧ (x31.1.1.1 = x24.1.1.1.1 ∧ x31.1.1.2 = x24.1.1.1.2 ∧ x31.1.1.3 = x24.1.1.1.3 ∧ x31.1.1.4 = x24.1.1.1.4) ∧ x31.2.1 =
x24.1.2.1 ∧ x31.2.2 = x24.1.2.2 ∧ x31.2.3 = x24.1.2.3 ∧ x31.2.4 = x24.1.2.4 ∧ x31.2.5 = x24.1.2.5 ∧ x31.2.6 = x24.1.2.6 ∧ x31.2.7 = x24.1.2.7 ∧ x31.2.8 = x24.1.2.8 ∧ True ∧ True ∧
(x31.1.2.1 = x24.1.1.2.1 ∧ x31.1.2.2 = x24.1.1.2.2 ∧ x31.1.2.3 = x24.1.1.2.3 ∧ x31.1.2.4 = x24.1.1.2.4) ∧ True) ∧ (True ∧ FlatL x31.1.1.5 ∧ x31.1.1.5 = x24.1.1.1.5) ∧ (True ∧ FlatL
x31.1.2.5 ∧ x31.1.2.5 = x24.1.1.2.5) ∧ (True ∧ FlatL x31.3.2 ∧ x31.3.2 = x24.1.3.2) ∧ (True ∧ FlatL x31.4.2 ∧ x31.4.2 = x24.1.4.2) ∧ (True ∧ FlatL x31.5.2 ∧ x31.5.2 = x24.1.5.2) ∧
(True ∧ (Bool.false = Bool.false ∧ nat_lit 0 = nat_lit 0 ∧ nat_lit 2 = nat_lit 2 ∧ x31.3.1 = x24.1.3.1) ∧ (Bool.false = Bool.false ∧ nat_lit 0 = nat_lit 0 ∧ nat_lit 2 = nat_lit 2 ∧
x31.4.1 = x24.1.4.1) ∧ (Bool.false = Bool.false ∧ nat_lit 0 = nat_lit 0 ∧ nat_lit 2 = nat_lit 2 ∧ x31.5.1 = x24.1.5.1) ∧ Int.ofNat (0 : Nat) = Int.ofNat (0 : Nat) ∧ Int.ofNat (0 :
Nat) = Int.ofNat (0 : Nat) ∧ Int.ofNat (0 : Nat) = Int.ofNat (0 : Nat) ∧ Int.ofNat (0 : Nat) = Int.ofNat (0 : Nat) ∧ Int.ofNat (0 : Nat) = Int.ofNat (0 : Nat) ∧ True) ∧ True) ∧
True)) ∧ ∀ (x34 : StO), (rlF x34.1 ∧ x34.1.1.3 = (2 : Nat) ∧ x34.1.2.3 = (2 : Nat) ∧ ∃ (x35 : PX), ∃ (x36 : List Int), PH (PA.mk (SA.mk Bool.false (0 : Nat) (2 : Nat) x34.3.1
x34.3.2) (SA.mk Bool.false (0 : Nat) (2 : Nat) x34.4.1 x34.4.2) (SA.mk Bool.false (0 : Nat) (2 : Nat) x34.5.1 x34.5.2) (0 : Int) (0 : Int) (0 : Int) (0 : Int) (0 : Int)) x35 ∧ Sli
(Value.int IntKind.i32) (2 : Nat) x34.1.2.1 x34.1.2.2 x34.1.2.3 x34.1.2.4 x34.1.2.5 x36 ∧ inAll x36 x35.1 (2 : Nat)) → (True ∧ (∃ (x37 : PX), PH (PA.mk (SA.mk Bool.false (nat_lit
0) (nat_lit 2) x34.3.1 x34.3.2) (SA.mk Bool.false (nat_lit 0) (nat_lit 2) x34.4.1 x34.4.2) (SA.mk Bool.false (nat_lit 0) (nat_lit 2) x34.5.1 x34.5.2) (Int.ofNat (0 : Nat))
(Int.ofNat (0 : Nat)) (Int.ofNat (0 : Nat)) (Int.ofNat (0 : Nat)) (Int.ofNat (0 : Nat))) x37) ∧ nat_lit 2 ≤ (1000 : Nat) ∧ nat_lit 2 ≤ (1000 : Nat) ∧ nat_lit 2 ≤ (1000 : Nat)) ∧
((((Bool.false = Bool.false ∧ nat_lit 0 = nat_lit 0 ∧ nat_lit 2 = nat_lit 2 ∧ x34.3.1 = x34.3.1) ∧ (Bool.false = Bool.false ∧ nat_lit 0 = nat_lit 0 ∧ nat_lit 2 = nat_lit 2 ∧
x34.4.1 = x34.4.1) ∧ (Bool.false = Bool.false ∧ nat_lit 0 = nat_lit 0 ∧ nat_lit 2 = nat_lit 2 ∧ x34.5.1 = x34.5.1) ∧ Int.ofNat (0 : Nat) = Int.ofNat (0 : Nat) ∧ Int.ofNat (0 : Nat)
= Int.ofNat (0 : Nat) ∧ Int.ofNat (0 : Nat) = Int.ofNat (0 : Nat) ∧ Int.ofNat (0 : Nat) = Int.ofNat (0 : Nat) ∧ Int.ofNat (0 : Nat) = Int.ofNat (0 : Nat) ∧ True) ∧ True) ∧ (True ∧
FlatL x34.3.2 ∧ x34.3.2 = x34.3.2) ∧ (True ∧ FlatL x34.4.2 ∧ x34.4.2 = x34.4.2) ∧ (True ∧ FlatL x34.5.2 ∧ x34.5.2 = x34.5.2) ∧ True) ∧ (∀ (x38 : PB), (∀ (x39 : PX), PH (PA.mk
(SA.mk Bool.false (nat_lit 0) (nat_lit 2) x34.3.1 x34.3.2) (SA.mk Bool.false (nat_lit 0) (nat_lit 2) x34.4.1 x34.4.2) (SA.mk Bool.false (nat_lit 0) (nat_lit 2) x34.5.1 x34.5.2)
(Int.ofNat (0 : Nat)) (Int.ofNat (0 : Nat)) (Int.ofNat (0 : Nat)) (Int.ofNat (0 : Nat)) (Int.ofNat (0 : Nat))) x39 → PH (PA.mk (SA.mk Bool.false (0 : Nat) (nat_lit 2) x38.1.1
x38.1.2) (SA.mk Bool.false (0 : Nat) (nat_lit 2) x38.2.1 x38.2.2) (SA.mk Bool.false (0 : Nat) (nat_lit 2) x38.3.1 x38.3.2) (Int.ofNat (0 : Nat)) (Int.ofNat (0 : Nat)) (Int.ofNat (0
: Nat)) (Int.ofNat (0 : Nat)) (Int.ofNat (0 : Nat))) x39) ∧ (Bool.false = Bool.false → List.length x38.1.2 = nat_lit 2) → (Bool.false = Bool.true → (1 : Nat) ≤ List.length
[Value.iface (1000000007 : Nat) (Value.int IntKind.i32 a.3)] ∧ ∀ (x40 : List Value), x40 = lwin [Value.iface (1000000007 : Nat) (Value.int IntKind.i32 a.3)] (0 : Nat) (1 : Nat) →
((1 : Nat) = (0 : Nat) → (True ∧ (rlF x34.1 ∧ okNw (NwA.mk x34.1 (PA.mk (SA.mk Bool.true (0 : Nat) (0 : Nat) (0 : Nat) []) (SA.mk Bool.false (0 : Nat) (nat_lit 2) x38.2.1 x38.2.2)
(SA.mk Bool.false (0 : Nat) (nat_lit 2) x38.3.1 x38.3.2) (Int.ofNat (0 : Nat)) (Int.ofNat (0 : Nat)) (Int.ofNat (0 : Nat)) (Int.ofNat (0 : Nat)) (Int.ofNat (0 : Nat))) a.2) ∧
(nat_lit 0 ≤ (1000 : Nat) ∧ nat_lit 2 ≤ (1000 : Nat) ∧ nat_lit 2 ≤ (1000 : Nat)) ∧ (∃ (x41 : List Int), Sli (Value.int IntKind.i64) (1 : Nat) a.2.1 a.2.2 a.2.3 a.2.4 a.2.5 x41) ∧
a.2.3 ≤ (1000 : Nat)) ∧ nat_lit 0 ≠ x34.1.2.3) ∧ (((0 : Nat) = (0 : Nat) ∧ ((Bool.true = Bool.true ∧ nat_lit 0 = (0 : Nat) ∧ nat_lit 0 = (0 : Nat)) ∧ (Bool.false = Bool.false ∧
nat_lit 0 = (0 : Nat) ∧ nat_lit 2 = nat_lit 2 ∧ x38.2.1 = x38.2.1) ∧ (Bool.false = Bool.false ∧ nat_lit 0 = (0 : Nat) ∧ nat_lit 2 = nat_lit 2 ∧ x38.3.1 = x38.3.1) ∧ Int.ofNat (0 :
Nat) = Int.ofNat (0 : Nat) ∧ Int.ofNat (0 : Nat) = Int.ofNat (0 : Nat) ∧ Int.ofNat (0 : Nat) = Int.ofNat (0 : Nat) ∧ Int.ofNat (0 : Nat) = Int.ofNat (0 : Nat) ∧ Int.ofNat (0 : Nat)
= Int.ofNat (0 : Nat) ∧ True) ∧ (a.2.1 = a.2.1 ∧ a.2.2 = a.2.2 ∧ a.2.3 = a.2.3 ∧ a.2.4 = a.2.4) ∧ True) ∧ (True ∧ True ∧ (x34.1.1.1 = x34.1.1.1 ∧ x34.1.1.2 = x34.1.1.2 ∧ x34.1.1.3
= x34.1.1.3 ∧ x34.1.1.4 = x34.1.1.4) ∧ True ∧ True ∧ True ∧ True ∧ True ∧ True ∧ True ∧ True ∧ True ∧ True ∧ (x34.1.2.1 = x34.1.2.1 ∧ x34.1.2.2 = x34.1.2.2 ∧ x34.1.2.3 = x34.1.2.3
∧ x34.1.2.4 = x34.1.2.4) ∧ True) ∧ (True ∧ FlatL x34.1.1.5 ∧ x34.1.1.5 = x34.1.1.5) ∧ (True ∧ FlatL x34.1.2.5 ∧ x34.1.2.5 = x34.1.2.5) ∧ (FlatL [] ∧ True) ∧ (True ∧ FlatL x38.2.2 ∧
x38.2.2 = x38.2.2) ∧ (True ∧ FlatL x38.3.2 ∧ x38.3.2 = x38.3.2) ∧ (True ∧ FlatL a.2.5 ∧ a.2.5 = a.2.5) ∧ True) ∧ (∀ (x42 : Unit), True → ∃ (x43 : Unit), True ∧ Bool.true =
Bool.true ∧ True) ∧ True) ∧ ((1 : Nat) ≠ (0 : Nat) → Few (1 : Nat) (4 : Nat) ∧ (True ∧ (rlF x34.1 ∧ okNw (NwA.mk x34.1 (PA.mk (SA.mk Bool.false (0 : Nat) (1 : Nat) (1 : Nat) x40)
(SA.mk Bool.false (0 : Nat) (nat_lit 2) x38.2.1 x38.2.2) (SA.mk Bool.false (0 : Nat) (nat_lit 2) x38.3.1 x38.3.2) (Int.ofNat (0 : Nat)) (Int.ofNat (0 : Nat)) (Int.ofNat (0 : Nat))
(Int.ofNat (0 : Nat)) (Int.ofNat (0 : Nat))) a.2) ∧ (nat_lit 1 ≤ (1000 : Nat) ∧ nat_lit 2 ≤ (1000 : Nat) ∧ nat_lit 2 ≤ (1000 : Nat)) ∧ (∃ (x44 : List Int), Sli (Value.int
IntKind.i64) (1 : Nat) a.2.1 a.2.2 a.2.3 a.2.4 a.2.5 x44) ∧ a.2.3 ≤ (1000 : Nat)) ∧ nat_lit 1 ≠ x34.1.2.3) ∧ (((0 : Nat) = (0 : Nat) ∧ ((Bool.false = Bool.false ∧ nat_lit 0 = (0 :
Nat) ∧ nat_lit 1 = (1 : Nat) ∧ nat_lit 1 = (1 : Nat)) ∧ (Bool.false = Bool.false ∧ nat_lit 0 = (0 : Nat) ∧ nat_lit 2 = nat_lit 2 ∧ x38.2.1 = x38.2.1) ∧ (Bool.false = Bool.false ∧
nat_lit 0 = (0 : Nat) ∧ nat_lit 2 = nat_lit 2 ∧ x38.3.1 = x38.3.1) ∧ Int.ofNat (0 : Nat) = Int.ofNat (0 : Nat) ∧ Int.ofNat (0 : Nat) = Int.ofNat (0 : Nat) ∧ Int.ofNat (0 : Nat) =
Int.ofNat (0 : Nat) ∧ Int.ofNat (0 : Nat) = Int.ofNat (0 : Nat) ∧ Int.ofNat (0 : Nat) = Int.ofNat (0 : Nat) ∧ True) ∧ (a.2.1 = a.2.1 ∧ a.2.2 = a.2.2 ∧ a.2.3 = a.2.3 ∧ a.2.4 =
a.2.4) ∧ True) ∧ (True ∧ True ∧ (x34.1.1.1 = x34.1.1.1 ∧ x34.1.1.2 = x34.1.1.2 ∧ x34.1.1.3 = x34.1.1.3 ∧ x34.1.1.4 = x34.1.1.4) ∧ True ∧ True ∧ True ∧ True ∧ True ∧ True ∧ True ∧
True ∧ True ∧ True ∧ (x34.1.2.1 = x34.1.2.1 ∧ x34.1.2.2 = x34.1.2.2 ∧ x34.1.2.3 = x34.1.2.3 ∧ x34.1.2.4 = x34.1.2.4) ∧ True) ∧ (True ∧ FlatL x34.1.1.5 ∧ x34.1.1.5 = x34.1.1.5) ∧
(True ∧ FlatL x34.1.2.5 ∧ x34.1.2.5 = x34.1.2.5) ∧ (True ∧ FlatL x40 ∧ x40 = x40) ∧ (True ∧ FlatL x38.2.2 ∧ x38.2.2 = x38.2.2) ∧ (True ∧ FlatL x38.3.2 ∧ x38.3.2 = x38.3.2) ∧ (True
∧ FlatL a.2.5 ∧ a.2.5 = a.2.5) ∧ True) ∧ (∀ (x45 : Unit), True → ∃ (x46 : Unit), True ∧ Bool.true = Bool.true ∧ True) ∧ True)) ∧ (Bool.false = Bool.false → (1 : Nat) ≤ List.length
[Value.iface (1000000007 : Nat) (Value.int IntKind.i32 a.3)] ∧ ∀ (x47 : List Value), x47 = lwin [Value.iface (1000000007 : Nat) (Value.int IntKind.i32 a.3)] (0 : Nat) (1 : Nat) →
((0 : Nat) = (0 : Nat) ∧ List.length x38.1.2 = nat_lit 2 * (1 : Nat) ∧ x38.1.1 = x38.1.1 ∧ nat_lit 2 ≤ x38.1.1 ∧ Few (nat_lit 2 + (1 : Nat)) (4 : Nat) ∧ lall oneK x47 = Bool.true)
∧ ∀ (x48 x49 : Nat), x48 = nat_lit 2 + (1 : Nat) → (x49 = if x48 ≤ RW.k (PB.b1 x38) then x38.1.1 else x48) → (True ∧ (rlF x34.1 ∧ okNw (NwA.mk x34.1 (PA.mk (SA.mk Bool.false (0 :
Nat) x48 x49 (x38.1.2 ++ x47)) (SA.mk Bool.false (0 : Nat) (nat_lit 2) x38.2.1 x38.2.2) (SA.mk Bool.false (0 : Nat) (nat_lit 2) x38.3.1 x38.3.2) (Int.ofNat (0 : Nat)) (Int.ofNat (0
: Nat)) (Int.ofNat (0 : Nat)) (Int.ofNat (0 : Nat)) (Int.ofNat (0 : Nat))) a.2) ∧ (x48 ≤ (1000 : Nat) ∧ nat_lit 2 ≤ (1000 : Nat) ∧ nat_lit 2 ≤ (1000 : Nat)) ∧ (∃ (x50 : List Int),
Sli (Value.int IntKind.i64) (1 : Nat) a.2.1 a.2.2 a.2.3 a.2.4 a.2.5 x50) ∧ a.2.3 ≤ (1000 : Nat)) ∧ x48 ≠ x34.1.2.3) ∧ (((0 : Nat) = (0 : Nat) ∧ ((Bool.false = Bool.false ∧ nat_lit
0 = (0 : Nat) ∧ x48 = x48 ∧ x49 = x49) ∧ (Bool.false = Bool.false ∧ nat_lit 0 = (0 : Nat) ∧ nat_lit 2 = nat_lit 2 ∧ x38.2.1 = x38.2.1) ∧ (Bool.false = Bool.false ∧ nat_lit 0 = (0 :
Nat) ∧ nat_lit 2 = nat_lit 2 ∧ x38.3.1 = x38.3.1) ∧ Int.ofNat (0 : Nat) = Int.ofNat (0 : Nat) ∧ Int.ofNat (0 : Nat) = Int.ofNat (0 : Nat) ∧ Int.ofNat (0 : Nat) = Int.ofNat (0 :
Nat) ∧ Int.ofNat (0 : Nat) = Int.ofNat (0 : Nat) ∧ Int.ofNat (0 : Nat) = Int.ofNat (0 : Nat) ∧ True) ∧ (a.2.1 = a.2.1 ∧ a.2.2 = a.2.2 ∧ a.2.3 = a.2.3 ∧ a.2.4 = a.2.4) ∧ True) ∧
(True ∧ True ∧ (x34.1.1.1 = x34.1.1.1 ∧ x34.1.1.2 = x34.1.1.2 ∧ x34.1.1.3 = x34.1.1.3 ∧ x34.1.1.4 = x34.1.1.4) ∧ True ∧ True ∧ True ∧ True ∧ True ∧ True ∧ True ∧ True ∧ True ∧ True
∧ (x34.1.2.1 = x34.1.2.1 ∧ x34.1.2.2 = x34.1.2.2 ∧ x34.1.2.3 = x34.1.2.3 ∧ x34.1.2.4 = x34.1.2.4) ∧ True) ∧ (True ∧ FlatL x34.1.1.5 ∧ x34.1.1.5 = x34.1.1.5) ∧ (True ∧ FlatL
x34.1.2.5 ∧ x34.1.2.5 = x34.1.2.5) ∧ (True ∧ FlatL (x38.1.2 ++ x47) ∧ x38.1.2 ++ x47 = x38.1.2 ++ x47) ∧ (True ∧ FlatL x38.2.2 ∧ x38.2.2 = x38.2.2) ∧ (True ∧ FlatL x38.3.2 ∧
x38.3.2 = x38.3.2) ∧ (True ∧ FlatL a.2.5 ∧ a.2.5 = a.2.5) ∧ True) ∧ (∀ (x51 : Unit), True → ∃ (x52 : Unit), True ∧ Bool.true = Bool.true ∧ True) ∧ True)) ∧ True) ∧ True) ∧ True)) ∧
True) := by kernel_rfl
theorem vc_none22 (a : NnA) (xs : List Int) : G_none22 a xs = ((True ∧ True) ∧ (True ∧ (True ∧ FlatL cells0 ∧ cells0 = cells0) ∧ (True ∧ FlatL cells1 ∧ cells1 = cells1) ∧ (True ∧ FlatL cells2 ∧ cells2 = cells2) ∧ (True ∧ FlatL cells4 ∧ cells4
= cells4) ∧ (True ∧ FlatL cells5 ∧ cells5 = cells5) ∧ (True ∧ FlatL cells6 ∧ cells6 = cells6) ∧ (True ∧ FlatL cells8 ∧ cells8 = cells8) ∧ (True ∧ FlatL cells9 ∧ cells9 = cells9) ∧
(True ∧ FlatL cells10 ∧ cells10 = cells10) ∧ True) ∧ (∀ (x0 : Unit), True → ∀ (x1 : Int), x1 = (↑a.2.3 : Int) → ((10 : Int) < x1 → (True ∧ True) ∧ (True ∧ (True ∧ FlatL cells0 ∧
cells0 = cells0) ∧ (True ∧ FlatL cells1 ∧ cells1 = cells1) ∧ (True ∧ FlatL cells2 ∧ cells2 = cells2) ∧ (True ∧ FlatL cells4 ∧ cells4 = cells4) ∧ (True ∧ FlatL cells5 ∧ cells5 =
cells5) ∧ (True ∧ FlatL cells6 ∧ cells6 = cells6) ∧ (True ∧ FlatL cells8 ∧ cells8 = cells8) ∧ (True ∧ FlatL cells9 ∧ cells9 = cells9) ∧ (True ∧ FlatL cells10 ∧ cells10 = cells10) ∧
True) ∧ (∀ (x2 : Unit), True → ∃ (x3 : Unit), True ∧ Bool.true = Bool.true ∧ True) ∧ True) ∧ (¬(10 : Int) < x1 → (True ∧ (0 : Int) ≤ a.1 ∧ a.1 < (256 : Int)) ∧ ((a.1 = a.1 ∧ True)
∧ (True ∧ FlatL cells0 ∧ cells0 = cells0) ∧ (True ∧ FlatL cells1 ∧ cells1 = cells1) ∧ (True ∧ FlatL cells2 ∧ cells2 = cells2) ∧ (True ∧ FlatL cells4 ∧ cells4 = cells4) ∧ (True ∧
FlatL cells5 ∧ cells5 = cells5) ∧ (True ∧ FlatL cells6 ∧ cells6 = cells6) ∧ (True ∧ FlatL cells8 ∧ cells8 = cells8) ∧ (True ∧ FlatL cells9 ∧ cells9 = cells9) ∧ (True ∧ FlatL
cells10 ∧ cells10 = cells10) ∧ True) ∧ (∀ (x4 : StO), (rlF x4.1 ∧ x4.1.1.3 = (2 : Nat) ∧ x4.1.2.3 = (2 : Nat) ∧ ∃ (x5 : PX), ∃ (x6 : List Int), PH (PA.mk (SA.mk Bool.false (0 :
Nat) (2 : Nat) x4.3.1 x4.3.2) (SA.mk Bool.false (0 : Nat) (2 : Nat) x4.4.1 x4.4.2) (SA.mk Bool.false (0 : Nat) (2 : Nat) x4.5.1 x4.5.2) (0 : Int) (0 : Int) (0 : Int) (0 : Int) (0 :
Int)) x5 ∧ Sli (Value.int IntKind.i32) (2 : Nat) x4.1.2.1 x4.1.2.2 x4.1.2.3 x4.1.2.4 x4.1.2.5 x6 ∧ inAll x6 x5.1 (2 : Nat)) → (True ∧ (rlF x4.1 ∧ okNw (NwA.mk x4.1 (PA.mk (SA.mk
Bool.false (nat_lit 0) (nat_lit 2) x4.3.1 x4.3.2) (SA.mk Bool.false (nat_lit 0) (nat_lit 2) x4.4.1 x4.4.2) (SA.mk Bool.false (nat_lit 0) (nat_lit 2) x4.5.1 x4.5.2) (Int.ofNat (0 :
Nat)) (Int.ofNat (0 : Nat)) (Int.ofNat (0 : Nat)) (Int.ofNat (0 : Nat)) (Int.ofNat (0 : Nat))) a.2) ∧ (nat_lit 2 ≤ (1000 : Nat) ∧ nat_lit 2 ≤ (1000 : Nat) ∧ nat_lit 2 ≤ (1000 :
Nat)) ∧ (∃ (x7 : List Int), Sli (Value.int IntKind.i64) (1 : Nat) a.2.1 a.2.2 a.2.3 a.2.4 a.2.5 x7) ∧ a.2.3 ≤ (1000 : Nat)) ∧ nat_lit 2 = x4.1.2.3 ∧ cond22 (NwA.mk x4.1 (PA.mk
(SA.mk Bool.false (nat_lit 0) (nat_lit 2) x4.3.1 x4.3.2) (SA.mk Bool.false (nat_lit 0) (nat_lit 2) x4.4.1 x4.4.2) (SA.mk Bool.false (nat_lit 0) (nat_lit 2) x4.5.1 x4.5.2)
(Int.ofNat (0 : Nat)) (Int.ofNat (0 : Nat)) (Int.ofNat (0 : Nat)) (Int.ofNat (0 : Nat)) (Int.ofNat (0 : Nat))) a.2)) ∧ (((0 : Nat) = (0 : Nat) ∧ ((Bool.false = Bool.false ∧ nat_lit
0 = nat_lit 0 ∧ nat_lit 2 = nat_lit 2 ∧ x4.3.1 = x4.3.1) ∧ (Bool.false = Bool.false ∧ nat_lit 0 = nat_lit 0 ∧ nat_lit 2 = nat_lit 2 ∧ x4.4.1 = x4.4.1) ∧ (Bool.false = Bool.false ∧
nat_lit 0 = nat_lit 0 ∧ nat_lit 2 = nat_lit 2 ∧ x4.5.1 = x4.5.1) ∧ Int.ofNat (0 : Nat) = Int.ofNat (0 : Nat) ∧ Int.ofNat (0 : Nat) = Int.ofNat (0 : Nat) ∧ Int.ofNat (0 : Nat) =
Int.ofNat (0 : Nat) ∧ Int.ofNat (0 : Nat) = Int.ofNat (0 : Nat) ∧ Int.ofNat (0 : Nat) = Int.ofNat (0 : Nat) ∧ True) ∧ (a.2.1 = a.2.1 ∧ a.2.2 = a.2.2 ∧ a.2.3 = a.2.3 ∧ a.2.4 =
a.2.4) ∧ True) ∧ (True ∧ True ∧ (x4.1.1.1 = x4.1.1.1 ∧ x4.1.1.2 = x4.1.1.2 ∧ x4.1.1.3 = x4.1.1.3 ∧ x4.1.1.4 = x4.1.1.4) ∧ True ∧ True ∧ True ∧ True ∧ True ∧ True ∧ True ∧ True ∧
True ∧ True ∧ (x4.1.2.1 = x4.1.2.1 ∧ x4.1.2.2 = x4.1.2.2 ∧ x4.1.2.3 = x4.1.2.3 ∧ x4.1.2.4 = x4.1.2.4) ∧ True) ∧ (True ∧ FlatL x4.1.1.5 ∧ x4.1.1.5 = x4.1.1.5) ∧ (True ∧ FlatL
x4.1.2.5 ∧ x4.1.2.5 = x4.1.2.5) ∧ (True ∧ FlatL x4.3.2 ∧ x4.3.2 = x4.3.2) ∧ (True ∧ FlatL x4.4.2 ∧ x4.4.2 = x4.4.2) ∧ (True ∧ FlatL x4.5.2 ∧ x4.5.2 = x4.5.2) ∧ (True ∧ FlatL a.2.5
∧ a.2.5 = a.2.5) ∧ True) ∧ (∀ (x8 : Unit), True → ∀ (x9 : Int), x9 = (↑a.2.3 : Int) → ∃ (x10 : NnM), ((((0 : Int) ≤ x10.2 ∧ x10.2 ≤ (↑a.2.3 : Int)) ∧ x10.4 = sumC (List.take
(Int.toNat x10.2) xs)) ∧ okSt x10.1) ∧ (((a.2.1 = a.2.1 ∧ a.2.2 = a.2.2 ∧ a.2.3 = a.2.3 ∧ a.2.4 = a.2.4) ∧ a.3 = a.3 ∧ (0 : Nat) = (0 : Nat) ∧ (0 : Nat) = (0 : Nat) ∧ True ∧ (22 :
Int) = (22 : Int) ∧ (0 : Int) = (0 : Int) ∧ x10.4 = (0 : Int) ∧ (a.2.1 = a.2.1 ∧ a.2.2 = a.2.2 ∧ a.2.3 = a.2.3 ∧ a.2.4 = a.2.4) ∧ (↑a.2.3 : Int) = x9 ∧ x10.2 = (0 : Int) ∧ True) ∧
((True ∧ FlatL a.2.5 ∧ a.2.5 = a.2.5) ∧ (True ∧ True ∧ (x10.1.1.1.1 = x4.1.1.1 ∧ x10.1.1.1.2 = x4.1.1.2 ∧ x10.1.1.1.3 = x4.1.1.3 ∧ x10.1.1.1.4 = x4.1.1.4) ∧ x10.1.2.1 = x4.2.1 ∧
x10.1.2.2 = x4.2.2 ∧ x10.1.2.3 = x4.2.3 ∧ x10.1.2.4 = x4.2.4 ∧ x10.1.2.5 = x4.2.5 ∧ x10.1.2.6 = x4.2.6 ∧ x10.1.2.7 = x4.2.7 ∧ x10.1.2.8 = x4.2.8 ∧ True ∧ True ∧ (x10.1.1.2.1 =
x4.1.2.1 ∧ x10.1.1.2.2 = x4.1.2.2 ∧ x10.1.1.2.3 = x4.1.2.3 ∧ x10.1.1.2.4 = x4.1.2.4) ∧ True) ∧ (True ∧ FlatL x10.1.1.1.5 ∧ x10.1.1.1.5 = x4.1.1.5) ∧ (True ∧ FlatL x10.1.1.2.5 ∧
x10.1.1.2.5 = x4.1.2.5) ∧ (True ∧ FlatL x10.1.3.2 ∧ x10.1.3.2 = x4.3.2) ∧ (True ∧ FlatL x10.1.4.2 ∧ x10.1.4.2 = x4.4.2) ∧ (True ∧ FlatL x10.1.5.2 ∧ x10.1.5.2 = x4.5.2) ∧ (True ∧
(Bool.false = Bool.false ∧ nat_lit 0 = nat_lit 0 ∧ nat_lit 2 = nat_lit 2 ∧ x10.1.3.1 = x4.3.1) ∧ (Bool.false = Bool.false ∧ nat_lit 0 = nat_lit 0 ∧ nat_lit 2 = nat_lit 2 ∧
x10.1.4.1 = x4.4.1) ∧ (Bool.false = Bool.false ∧ nat_lit 0 = nat_lit 0 ∧ nat_lit 2 = nat_lit 2 ∧ x10.1.5.1 = x4.5.1) ∧ Int.ofNat (0 : Nat) = Int.ofNat (0 : Nat) ∧ Int.ofNat (0 :
Nat) = Int.ofNat (0 : Nat) ∧ Int.ofNat (0 : Nat) = Int.ofNat (0 : Nat) ∧ Int.ofNat (0 : Nat) = Int.ofNat (0 : Nat) ∧ Int.ofNat (0 : Nat) = Int.ofNat (0 : Nat) ∧ True) ∧ True) ∧
True) ∧ ∀ (x11 : NnM), (((0 : Int) ≤ x11.2 ∧ x11.2 ≤ (↑a.2.3 : Int)) ∧ x11.4 = sumC (List.take (Int.toNat x11.2) xs)) ∧ okSt x11.1 → (x11.2 < (↑a.2.3 : Int) → ((0 : Int) ≤ x11.2 ∧
x11.2 < (↑a.2.3 : Int)) ∧ ∀ (x12 : Nat), x12 = a.2.2 + Int.toNat x11.2 * (1 : Nat) → ∃ (x13 : Int), Rd a.2.5 (Nat.add x12 (0 : Nat)) (Value.int IntKind.i64 x13) ∧ (x13 < (0 : Int)
→ ∀ (x14 : Int), x14 = IntKind.wrap IntKind.i64 (x11.2 + (1 : Int)) → ∃ (x15 : NnM), ((((0 : Int) ≤ x15.2 ∧ x15.2 ≤ (↑a.2.3 : Int)) ∧ x15.4 = sumC (List.take (Int.toNat x15.2) xs))
∧ okSt x15.1) ∧ Int.toNat ((↑a.2.3 : Int) - x15.2) < Int.toNat ((↑a.2.3 : Int) - x11.2) ∧ ((a.2.1 = a.2.1 ∧ a.2.2 = a.2.2 ∧ a.2.3 = a.2.3 ∧ a.2.4 = a.2.4) ∧ a.3 = a.3 ∧ (0 : Nat) =
(0 : Nat) ∧ (0 : Nat) = (0 : Nat) ∧ True ∧ (22 : Int) = (22 : Int) ∧ (0 : Int) = (2 : Int) ∧ x15.4 = x11.4 ∧ (a.2.1 = a.2.1 ∧ a.2.2 = a.2.2 ∧ a.2.3 = a.2.3 ∧ a.2.4 = a.2.4) ∧
(↑a.2.3 : Int) = (↑a.2.3 : Int) ∧ x15.2 = x14 ∧ True) ∧ ((True ∧ FlatL a.2.5 ∧ a.2.5 = a.2.5) ∧ (True ∧ True ∧ (x15.1.1.1.1 = x11.1.1.1.1 ∧ x15.1.1.1.2 = x11.1.1.1.2 ∧ x15.1.1.1.3
= x11.1.1.1.3 ∧ x15.1.1.1.4 = x11.1.1.1.4) ∧ x15.1.2.1 = x11.1.2.1 ∧ x15.1.2.2 = x11.1.2.2 ∧ x15.1.2.3 = x11.1.2.3 ∧ x15.1.2.4 = x11.1.2.4 ∧ x15.1.2.5 = x11.1.2.5 ∧ x15.1.2.6 =
x11.1.2.6 ∧ x15.1.2.7 = x11.1.2.7 ∧ x15.1.2.8 = x11.1.2.8 ∧ True ∧ True ∧ (x15.1.1.2.1 = x11.1.1.2.1 ∧ x15.1.1.2.2 = x11.1.1.2.2 ∧ x15.1.1.2.3 = x11.1.1.2.3 ∧ x15.1.1.2.4 =
x11.1.1.2.4) ∧ True) ∧ (True ∧ FlatL x15.1.1.1.5 ∧ x15.1.1.1.5 = x11.1.1.1.5) ∧ (True ∧ FlatL x15.1.1.2.5 ∧ x15.1.1.2.5 = x11.1.1.2.5) ∧ (True ∧ FlatL x15.1.3.2 ∧ x15.1.3.2 =
x11.1.3.2) ∧ (True ∧ FlatL x15.1.4.2 ∧ x15.1.4.2 = x11.1.4.2) ∧ (True ∧ FlatL x15.1.5.2 ∧ x15.1.5.2 = x11.1.5.2) ∧ (True ∧ (Bool.false = Bool.false ∧ nat_lit 0 = nat_lit 0 ∧
nat_lit 2 = nat_lit 2 ∧ x15.1.3.1 = x11.1.3.1) ∧ (Bool.false = Bool.false ∧ nat_lit 0 = nat_lit 0 ∧ nat_lit 2 = nat_lit 2 ∧ x15.1.4.1 = x11.1.4.1) ∧ (Bool.false = Bool.false ∧
nat_lit 0 = nat_lit 0 ∧ nat_lit 2 = nat_lit 2 ∧ x15.1.5.1 = x11.1.5.1) ∧ Int.ofNat (0 : Nat) = Int.ofNat (0 : Nat) ∧ Int.ofNat (0 : Nat) = Int.ofNat (0 : Nat) ∧ Int.ofNat (0 : Nat)
= Int.ofNat (0 : Nat) ∧ Int.ofNat (0 : Nat) = Int.ofNat (0 : Nat) ∧ Int.ofNat (0 : Nat) = Int.ofNat (0 : Nat) ∧ True) ∧ True) ∧ True) ∧ (¬x13 < (0 : Int) → ((1125899906842624 :
Int) < x13 → ∀ (x16 : Int), x16 = IntKind.wrap IntKind.i64 (x11.2 + (1 : Int)) → ∃ (x17 : NnM), ((((0 : Int) ≤ x17.2 ∧ x17.2 ≤ (↑a.2.3 : Int)) ∧ x17.4 = sumC (List.take (Int.toNat
x17.2) xs)) ∧ okSt x17.1) ∧ Int.toNat ((↑a.2.3 : Int) - x17.2) < Int.toNat ((↑a.2.3 : Int) - x11.2) ∧ ((a.2.1 = a.2.1 ∧ a.2.2 = a.2.2 ∧ a.2.3 = a.2.3 ∧ a.2.4 = a.2.4) ∧ a.3 = a.3 ∧
(0 : Nat) = (0 : Nat) ∧ (0 : Nat) = (0 : Nat) ∧ True ∧ (22 : Int) = (22 : Int) ∧ (0 : Int) = (2 : Int) ∧ x17.4 = x11.4 ∧ (a.2.1 = a.2.1 ∧ a.2.2 = a.2.2 ∧ a.2.3 = a.2.3 ∧ a.2.4 =
a.2.4) ∧ (↑a.2.3 : Int) = (↑a.2.3 : Int) ∧ x17.2 = x16 ∧ True) ∧ ((True ∧ FlatL a.2.5 ∧ a.2.5 = a.2.5) ∧ (True ∧ True ∧ (x17.1.1.1.1 = x11.1.1.1.1 ∧ x17.1.1.1.2 = x11.1.1.1.2 ∧
x17.1.1.1.3 = x11.1.1.1.3 ∧ x17.1.1.1.4 = x11.1.1.1.4) ∧ x17.1.2.1 = x11.1.2.1 ∧ x17.1.2.2 = x11.1.2.2 ∧ x17.1.2.3 = x11.1.2.3 ∧ x17.1.2.4 = x11.1.2.4 ∧ x17.1.2.5 = x11.1.2.5 ∧
x17.1.2.6 = x11.1.2.6 ∧ x17.1.2.7 = x11.1.2.7 ∧ x17.1.2.8 = x11.1.2.8 ∧ True ∧ True ∧ (x17.1.1.2.1 = x11.1.1.2.1 ∧ x17.1.1.2.2 = x11.1.1.2.2 ∧ x17.1.1.2.3 = x11.1.1.2.3 ∧
x17.1.1.2.4 = x11.1.1.2.4) ∧ True) ∧ (True ∧ FlatL x17.1.1.1.5 ∧ x17.1.1.1.5 = x11.1.1.1.5) ∧ (True ∧ FlatL x17.1.1.2.5 ∧ x17.1.1.2.5 = x11.1.1.2.5) ∧ (True ∧ FlatL x17.1.3.2 ∧
x17.1.3.2 = x11.1.3.2) ∧ (True ∧ FlatL x17.1.4.2 ∧ x17.1.4.2 = x11.1.4.2) ∧ (True ∧ FlatL x17.1.5.2 ∧ x17.1.5.2 = x11.1.5.2) ∧ (True ∧ (Bool.false = Bool.false ∧ nat_lit 0 =
nat_lit 0 ∧ nat_lit 2 = nat_lit 2 ∧ x17.1.3.1 = x11.1.3.1) ∧ (Bool.false = Bool.false ∧ nat_lit 0 = nat_lit 0 ∧ nat_lit 2 = nat_lit 2 ∧ x17.1.4.1 = x11.1.4.1) ∧ (Bool.false =
Bool.false ∧ nat_lit 0 = nat_lit 0 ∧ nat_lit 2 = nat_lit 2 ∧ x17.1.5.1 = x11.1.5.1) ∧ Int.ofNat (0 : Nat) = Int.ofNat (0 : Nat) ∧ Int.ofNat (0 : Nat) = Int.ofNat (0 : Nat) ∧
Int.ofNat (0 : Nat) = Int.ofNat (0 : Nat) ∧ Int.ofNat (0 : Nat) = Int.ofNat (0 : Nat) ∧ Int.ofNat (0 : Nat) = Int.ofNat (0 : Nat) ∧ True) ∧ True) ∧ True) ∧ (¬(1125899906842624 :
Int) < x13 → ∀ (x18 : Int), x18 = IntKind.wrap IntKind.i64 (x11.4 + x13) → ∀ (x19 : Int), x19 = IntKind.wrap IntKind.i64 (x11.2 + (1 : Int)) → ∃ (x20 : NnM), ((((0 : Int) ≤ x20.2 ∧
x20.2 ≤ (↑a.2.3 : Int)) ∧ x20.4 = sumC (List.take (Int.toNat x20.2) xs)) ∧ okSt x20.1) ∧ Int.toNat ((↑a.2.3 : Int) - x20.2) < Int.toNat ((↑a.2.3 : Int) - x11.2) ∧ ((a.2.1 = a.2.1 ∧
a.2.2 = a.2.2 ∧ a.2.3 = a.2.3 ∧ a.2.4 = a.2.4) ∧ a.3 = a.3 ∧ (0 : Nat) = (0 : Nat) ∧ (0 : Nat) = (0 : Nat) ∧ True ∧ (22 : Int) = (22 : Int) ∧ (0 : Int) = (0 : Int) ∧ x20.4 = x18 ∧
(a.2.1 = a.2.1 ∧ a.2.2 = a.2.2 ∧ a.2.3 = a.2.3 ∧ a.2.4 = a.2.4) ∧ (↑a.2.3 : Int) = (↑a.2.3 : Int) ∧ x20.2 = x19 ∧ True) ∧ ((True ∧ FlatL a.2.5 ∧ a.2.5 = a.2.5) ∧ (True ∧ True ∧
(x20.1.1.1.1 = x11.1.1.1.1 ∧ x20.1.1.1.2 = x11.1.1.1.2 ∧ x20.1.1.1.3 = x11.1.1.1.3 ∧ x20.1.1.1.4 = x11.1.1.1.4) ∧ x20.1.2.1 = x11.1.2.1 ∧ x20.1.2.2 = x11.1.2.2 ∧ x20.1.2.3 =
x11.1.2.3 ∧ x20.1.2.4 = x11.1.2.4 ∧ x20.1.2.5 = x11.1.2.5 ∧ x20.1.2.6 = x11.1.2.6 ∧ x20.1.2.7 = x11.1.2.7 ∧ x20.1.2.8 = x11.1.2.8 ∧ True ∧ True ∧ (x20.1.1.2.1 = x11.1.1.2.1 ∧
x20.1.1.2.2 = x11.1.1.2.2 ∧ x20.1.1.2.3 = x11.1.1.2.3 ∧ x20.1.1.2.4 = x11.1.1.2.4) ∧ True) ∧ (True ∧ FlatL x20.1.1.1.5 ∧ x20.1.1.1.5 = x11.1.1.1.5) ∧ (True ∧ FlatL x20.1.1.2.5 ∧
x20.1.1.2.5 = x11.1.1.2.5) ∧ (True ∧ FlatL x20.1.3.2 ∧ x20.1.3.2 = x11.1.3.2) ∧ (True ∧ FlatL x20.1.4.2 ∧ x20.1.4.2 = x11.1.4.2) ∧ (True ∧ FlatL x20.1.5.2 ∧ x20.1.5.2 = x11.1.5.2)
∧ (True ∧ (Bool.false = Bool.false ∧ nat_lit 0 = nat_lit 0 ∧ nat_lit 2 = nat_lit 2 ∧ x20.1.3.1 = x11.1.3.1) ∧ (Bool.false = Bool.false ∧ nat_lit 0 = nat_lit 0 ∧ nat_lit 2 = nat_lit
2 ∧ x20.1.4.1 = x11.1.4.1) ∧ (Bool.false = Bool.false ∧ nat_lit 0 = nat_lit 0 ∧ nat_lit 2 = nat_lit 2 ∧ x20.1.5.1 = x11.1.5.1) ∧ Int.ofNat (0 : Nat) = Int.ofNat (0 : Nat) ∧
Int.ofNat (0 : Nat) = Int.ofNat (0 : Nat) ∧ Int.ofNat (0 : Nat) = Int.ofNat (0 : Nat) ∧ Int.ofNat (0 : Nat) = Int.ofNat (0 : Nat) ∧ Int.ofNat (0 : Nat) = Int.ofNat (0 : Nat) ∧
True) ∧ True) ∧ True))) ∧ (¬x11.2 < (↑a.2.3 : Int) → (∀ (x21 : Int), x21 = (↑a.2.3 : Int) → (x21 ≠ (2 : Int) → ∃ (x22 : StO), (rlF x22.1 ∧ x22.1.1.3 = (2 : Nat) ∧ x22.1.2.3 = (2 :
Nat) ∧ ∃ (x23 : PX), ∃ (x24 : List Int), PH (PA.mk (SA.mk Bool.false (0 : Nat) (2 : Nat) x22.3.1 x22.3.2) (SA.mk Bool.false (0 : Nat) (2 : Nat) x22.4.1 x22.4.2) (SA.mk Bool.false
(0 : Nat) (2 : Nat) x22.5.1 x22.5.2) (0 : Int) (0 : Int) (0 : Int) (0 : Int) (0 : Int)) x23 ∧ Sli (Value.int IntKind.i32) (2 : Nat) x22.1.2.1 x22.1.2.2 x22.1.2.3 x22.1.2.4
x22.1.2.5 x24 ∧ inAll x24 x23.1 (2 : Nat)) ∧ ((a.2.1 = a.2.1 ∧ a.2.2 = a.2.2 ∧ a.2.3 = a.2.3 ∧ a.2.4 = a.2.4) ∧ a.3 = a.3 ∧ (0 : Nat) = (0 : Nat) ∧ (0 : Nat) = (0 : Nat) ∧ True ∧
(22 : Int) = (22 : Int) ∧ (22 : Int) = (3 : Int) ∧ True) ∧ ((True ∧ FlatL a.2.5 ∧ a.2.5 = a.2.5) ∧ (True ∧ True ∧ (x22.1.1.1 = x11.1.1.1.1 ∧ x22.1.1.2 = x11.1.1.1.2 ∧ x22.1.1.3 =
x11.1.1.1.3 ∧ x22.1.1.4 = x11.1.1.1.4) ∧ x22.2.1 = x11.1.2.1 ∧ x22.2.2 = x11.1.2.2 ∧ x22.2.3 = x11.1.2.3 ∧ x22.2.4 = x11.1.2.4 ∧ x22.2.5 = x11.1.2.5 ∧ x22.2.6 = x11.1.2.6 ∧ x22.2.7
= x11.1.2.7 ∧ x22.2.8 = x11.1.2.8 ∧ True ∧ True ∧ (x22.1.2.1 = x11.1.1.2.1 ∧ x22.1.2.2 = x11.1.1.2.2 ∧ x22.1.2.3 = x11.1.1.2.3 ∧ x22.1.2.4 = x11.1.1.2.4) ∧ True) ∧ (True ∧ FlatL
x22.1.1.5 ∧ x22.1.1.5 = x11.1.1.1.5) ∧ (True ∧ FlatL x22.1.2.5 ∧ x22.1.2.5 = x11.1.1.2.5) ∧ (True ∧ FlatL x22.3.2 ∧ x22.3.2 = x11.1.3.2) ∧ (True ∧ FlatL x22.4.2 ∧ x22.4.2 =
x11.1.4.2) ∧ (True ∧ FlatL x22.5.2 ∧ x22.5.2 = x11.1.5.2) ∧ (True ∧ (Bool.false = Bool.false ∧ nat_lit 0 = nat_lit 0 ∧ nat_lit 2 = nat_lit 2 ∧ x22.3.1 = x11.1.3.1) ∧ (Bool.false =
Bool.false ∧ nat_lit 0 = nat_lit 0 ∧ nat_lit 2 = nat_lit 2 ∧ x22.4.1 = x11.1.4.1) ∧ (Bool.false = Bool.false ∧ nat_lit 0 = nat_lit 0 ∧ nat_lit 2 = nat_lit 2 ∧ x22.5.1 = x11.1.5.1)
∧ Int.ofNat (0 : Nat) = Int.ofNat (0 : Nat) ∧ Int.ofNat (0 : Nat) = Int.ofNat (0 : Nat) ∧ Int.ofNat (0 : Nat) = Int.ofNat (0 : Nat) ∧ Int.ofNat (0 : Nat) = Int.ofNat (0 : Nat) ∧
Int.ofNat (0 : Nat) = Int.ofNat (0 : Nat) ∧ True) ∧ True) ∧ True) ∧ (¬x21 ≠ (2 : Int) → ((1125899906842624 : Int) < x11.4 → ∃ (x25 : StO), (rlF x25.1 ∧ x25.1.1.3 = (2 : Nat) ∧
x25.1.2.3 = (2 : Nat) ∧ ∃ (x26 : PX), ∃ (x27 : List Int), PH (PA.mk (SA.mk Bool.false (0 : Nat) (2 : Nat) x25.3.1 x25.3.2) (SA.mk Bool.false (0 : Nat) (2 : Nat) x25.4.1 x25.4.2)
(SA.mk Bool.false (0 : Nat) (2 : Nat) x25.5.1 x25.5.2) (0 : Int) (0 : Int) (0 : Int) (0 : Int) (0 : Int)) x26 ∧ Sli (Value.int IntKind.i32) (2 : Nat) x25.1.2.1 x25.1.2.2 x25.1.2.3
x25.1.2.4 x25.1.2.5 x27 ∧ inAll x27 x26.1 (2 : Nat)) ∧ ((a.2.1 = a.2.1 ∧ a.2.2 = a.2.2 ∧ a.2.3 = a.2.3 ∧ a.2.4 = a.2.4) ∧ a.3 = a.3 ∧ (0 : Nat) = (0 : Nat) ∧ (0 : Nat) = (0 : Nat)
∧ True ∧ (22 : Int) = (22 : Int) ∧ (22 : Int) = (22 : Int) ∧ True) ∧ ((True ∧ FlatL a.2.5 ∧ a.2.5 = a.2.5) ∧ (True ∧ True ∧ (x25.1.1.1 = x11.1.1.1.1 ∧ x25.1.1.2 = x11.1.1.1.2 ∧
x25.1.1.3 = x11.1.1.1.3 ∧ x25.1.1.4 = x11.1.1.1.4) ∧ x25.2.1 = x11.1.2.1 ∧ x25.2.2 = x11.1.2.2 ∧ x25.2.3 = x11.1.2.3 ∧ x25.2.4 = x11.1.2.4 ∧ x25.2.5 = x11.1.2.5 ∧ x25.2.6 =
x11.1.2.6 ∧ x25.2.7 = x11.1.2.7 ∧ x25.2.8 = x11.1.2.8 ∧ True ∧ True ∧ (x25.1.2.1 = x11.1.1.2.1 ∧ x25.1.2.2 = x11.1.1.2.2 ∧ x25.1.2.3 = x11.1.1.2.3 ∧ x25.1.2.4 = x11.1.1.2.4) ∧
True) ∧ (True ∧ FlatL x25.1.1.5 ∧ x25.1.1.5 = x11.1.1.1.5) ∧ (True ∧ FlatL x25.1.2.5 ∧ x25.1.2.5 = x11.1.1.2.5) ∧ (True ∧ FlatL x25.3.2 ∧ x25.3.2 = x11.1.3.2) ∧ (True ∧ FlatL
x25.4.2 ∧ x25.4.2 = x11.1.4.2) ∧ (True ∧ FlatL x25.5.2 ∧ x25.5.2 = x11.1.5.2) ∧ (True ∧ (Bool.false = Bool.false ∧ nat_lit 0 = nat_lit 0 ∧ nat_lit 2 = nat_lit 2 ∧ x25.3.1 =
x11.1.3.1) ∧ (Bool.false = Bool.false ∧ nat_lit 0 = nat_lit 0 ∧ nat_lit 2 = nat_lit 2 ∧ x25.4.1 = x11.1.4.1) ∧ (Bool.false = Bool.false ∧ nat_lit 0 = nat_lit 0 ∧ nat_lit 2 =
nat_lit 2 ∧ x25.5.1 = x11.1.5.1) ∧ Int.ofNat (0 : Nat) = Int.ofNat (0 : Nat) ∧ Int.ofNat (0 : Nat) = Int.ofNat (0 : Nat) ∧ Int.ofNat (0 : Nat) = Int.ofNat (0 : Nat) ∧ Int.ofNat (0
: Nat) = Int.ofNat (0 : Nat) ∧ Int.ofNat (0 : Nat) = Int.ofNat (0 : Nat) ∧ True) ∧ True) ∧ True) ∧ (¬(1125899906842624 : Int) < x11.4 → ∃ (x28 : StO), (rlF x28.1 ∧ x28.1.1.3 = (2 :
Nat) ∧ x28.1.2.3 = (2 : Nat) ∧ ∃ (x29 : PX), ∃ (x30 : List Int), PH (PA.mk (SA.mk Bool.false (0 : Nat) (2 : Nat) x28.3.1 x28.3.2) (SA.mk Bool.false (0 : Nat) (2 : Nat) x28.4.1
x28.4.2) (SA.mk Bool.false (0 : Nat) (2 : Nat) x28.5.1 x28.5.2) (0 : Int) (0 : Int) (0 : Int) (0 : Int) (0 : Int)) x29 ∧ Sli (Value.int IntKind.i32) (2 : Nat) x28.1.2.1 x28.1.2.2
x28.1.2.3 x28.1.2.4 x28.1.2.5 x30 ∧ inAll x30 x29.1 (2 : Nat)) ∧ ((a.2.1 = a.2.1 ∧ a.2.2 = a.2.2 ∧ a.2.3 = a.2.3 ∧ a.2.4 = a.2.4) ∧ a.3 = a.3 ∧ (0 : Nat) = (0 : Nat) ∧ (0 : Nat) =
(0 : Nat) ∧ True ∧ (22 : Int) = (22 : Int) ∧ (22 : Int) = (0 : Int) ∧ True) ∧ ((True ∧ FlatL a.2.5 ∧ a.2.5 = a.2.5) ∧ (True ∧ True ∧ (x28.1.1.1 = x11.1.1.1.1 ∧ x28.1.1.2 =
x11.1.1.1.2 ∧ x28.1.1.3 = x11.1.1.1.3 ∧ x28.1.1.4 = x11.1.1.1.4) ∧ x28.2.1 = x11.1.2.1 ∧ x28.2.2 = x11.1.2.2 ∧ x28.2.3 = x11.1.2.3 ∧ x28.2.4 = x11.1.2.4 ∧ x28.2.5 = x11.1.2.5 ∧
x28.2.6 = x11.1.2.6 ∧ x28.2.7 = x11.1.2.7 ∧ x28.2.8 = x11.1.2.8 ∧ True ∧ True ∧ (x28.1.2.1 = x11.1.1.2.1 ∧ x28.1.2.2 = x11.1.1.2.2 ∧ x28.1.2.3 = x11.1.1.2.3 ∧ x28.1.2.4 =
x11.1.1.2.4) ∧ True) ∧ (True ∧ FlatL x28.1.1.5 ∧ x28.1.1.5 = x11.1.1.1.5) ∧ (True ∧ FlatL x28.1.2.5 ∧ x28.1.2.5 = x11.1.1.2.5) ∧ (True ∧ FlatL x28.3.2 ∧ x28.3.2 = x11.1.3.2) ∧
(True ∧ FlatL x28.4.2 ∧ x28.4.2 = x11.1.4.2) ∧ (True ∧ FlatL x28.5.2 ∧ x28.5.2 = x11.1.5.2) ∧ (True ∧ (Bool.false = Bool.false ∧ nat_lit 0 = nat_lit 0 ∧ nat_lit 2 = nat_lit 2 ∧
x28.3.1 = x11.1.3.1) ∧ (Bool.false = Bool.false ∧ nat_lit 0 = nat_lit 0 ∧ nat_lit 2 = nat_lit 2 ∧ x28.4.1 = x11.1.4.1) ∧ (Bool.false = Bool.false ∧ nat_lit 0 = nat_lit 0 ∧ nat_lit
2 = nat_lit 2 ∧ x28.5.1 = x11.1.5.1) ∧ Int.ofNat (0 : Nat) = Int.ofNat (0 : Nat) ∧ Int.ofNat (0 : Nat) = Int.ofNat (0 : Nat) ∧ Int.ofNat (0 : Nat) = Int.ofNat (0 : Nat) ∧ Int.ofNat
(0 : Nat) = Int.ofNat (0 : Nat) ∧ Int.ofNat (0 : Nat) = Int.ofNat (0 : Nat) ∧ True) ∧ True) ∧ True))) ∧ ∀ (x31 : StO), (rlF x31.1 ∧ x31.1.1.3 = (2 : Nat) ∧ x31.1.2.3 = (2 : Nat) ∧
∃ (x32 : PX), ∃ (x33 : List Int), PH (PA.mk (SA.mk Bool.false (0 : Nat) (2 : Nat) x31.3.1 x31.3.2) (SA.mk Bool.false (0 : Nat) (2 : Nat) x31.4.1 x31.4.2) (SA.mk Bool.false (0 :
Nat) (2 : Nat) x31.5.1 x31.5.2) (0 : Int) (0 : Int) (0 : Int) (0 : Int) (0 : Int)) x32 ∧ Sli (Value.int IntKind.i32) (2 : Nat) x31.1.2.1 x31.1.2.2 x31.1.2.3 x31.1.2.4 x31.1.2.5 x33
∧ inAll x33 x32.1 (2 : Nat)) → (True ∧ (∃ (x34 : PX), PH (PA.mk (SA.mk Bool.false (nat_lit 0) (nat_lit 2) x31.3.1 x31.3.2) (SA.mk Bool.false (nat_lit 0) (nat_lit 2) x31.4.1
x31.4.2) (SA.mk Bool.false (nat_lit 0) (nat_lit 2) x31.5.1 x31.5.2) (Int.ofNat (0 : Nat)) (Int.ofNat (0 : Nat)) (Int.ofNat (0 : Nat)) (Int.ofNat (0 : Nat)) (Int.ofNat (0 : Nat)))
x34) ∧ nat_lit 2 ≤ (1000 : Nat) ∧ nat_lit 2 ≤ (1000 : Nat) ∧ nat_lit 2 ≤ (1000 : Nat)) ∧ ((((Bool.false = Bool.false ∧ nat_lit 0 = nat_lit 0 ∧ nat_lit 2 = nat_lit 2 ∧ x31.3.1 =
x31.3.1) ∧ (Bool.false = Bool.false ∧ nat_lit 0 = nat_lit 0 ∧ nat_lit 2 = nat_lit 2 ∧ x31.4.1 = x31.4.1) ∧ (Bool.false = Bool.false ∧ nat_lit 0 = nat_lit 0 ∧ nat_lit 2 = nat_lit 2
∧ x31.5.1 = x31.5.1) ∧ Int.ofNat (0 : Nat) = Int.ofNat (0 : Nat) ∧ Int.ofNat (0 : Nat) = Int.ofNat (0 : Nat) ∧ Int.ofNat (0 : Nat) = Int.ofNat (0 : Nat) ∧ Int.ofNat (0 : Nat) =
Int.ofNat (0 : Nat) ∧ Int.ofNat (0 : Nat) = Int.ofNat (0 : Nat) ∧ True) ∧ True) ∧ (True ∧ FlatL x31.3.2 ∧ x31.3.2 = x31.3.2) ∧ (True ∧ FlatL x31.4.2 ∧ x31.4.2 = x31.4.2) ∧ (True ∧
FlatL x31.5.2 ∧ x31.5.2 = x31.5.2) ∧ True) ∧ (∀ (x35 : PB), (∀ (x36 : PX), PH (PA.mk (SA.mk Bool.false (nat_lit 0) (nat_lit 2) x31.3.1 x31.3.2) (SA.mk Bool.false (nat_lit 0)
(nat_lit 2) x31.4.1 x31.4.2) (SA.mk Bool.false (nat_lit 0) (nat_lit 2) x31.5.1 x31.5.2) (Int.ofNat (0 : Nat)) (Int.ofNat (0 : Nat)) (Int.ofNat (0 : Nat)) (Int.ofNat (0 : Nat))
(Int.ofNat (0 : Nat))) x36 → PH (PA.mk (SA.mk Bool.false (0 : Nat) (nat_lit 2) x35.1.1 x35.1.2) (SA.mk Bool.false (0 : Nat) (nat_lit 2) x35.2.1 x35.2.2) (SA.mk Bool.false (0 : Nat)
(nat_lit 2) x35.3.1 x35.3.2) (Int.ofNat (0 : Nat)) (Int.ofNat (0 : Nat)) (Int.ofNat (0 : Nat)) (Int.ofNat (0 : Nat)) (Int.ofNat (0 : Nat))) x36) ∧ (Bool.false = Bool.false →
List.length x35.1.2 = nat_lit 2) → (Bool.false = Bool.true → (1 : Nat) ≤ List.length [Value.iface (1000000007 : Nat) (Value.int IntKind.i32 a.3)] ∧ ∀ (x37 : List Value), x37 = lwin
[Value.iface (1000000007 : Nat) (Value.int IntKind.i32 a.3)] (0 : Nat) (1 : Nat) → ((1 : Nat) = (0 : Nat) → (True ∧ (rlF x31.1 ∧ okNw (NwA.mk x31.1 (PA.mk (SA.mk Bool.true (0 :
Nat) (0 : Nat) (0 : Nat) []) (SA.mk Bool.false (0 : Nat) (nat_lit 2) x35.2.1 x35.2.2) (SA.mk Bool.false (0 : Nat) (nat_lit 2) x35.3.1 x35.3.2) (Int.ofNat (0 : Nat)) (Int.ofNat (0 :
Nat)) (Int.ofNat (0 : Nat)) (Int.ofNat (0 : Nat)) (Int.ofNat (0 : Nat))) a.2) ∧ (nat_lit 0 ≤ (1000 : Nat) ∧ nat_lit 2 ≤ (1000 : Nat) ∧ nat_lit 2 ≤ (1000 : Nat)) ∧ (∃ (x38 : List
Int), Sli (Value.int IntKind.i64) (1 : Nat) a.2.1 a.2.2 a.2.3 a.2.4 a.2.5 x38) ∧ a.2.3 ≤ (1000 : Nat)) ∧ nat_lit 0 ≠ x31.1.2.3) ∧ (((0 : Nat) = (0 : Nat) ∧ ((Bool.true = Bool.true
∧ nat_lit 0 = (0 : Nat) ∧ nat_lit 0 = (0 : Nat)) ∧ (Bool.false = Bool.false ∧ nat_lit 0 = (0 : Nat) ∧ nat_lit 2 = nat_lit 2 ∧ x35.2.1 = x35.2.1) ∧ (Bool.false = Bool.false ∧
nat_lit 0 = (0 : Nat) ∧ nat_lit 2 = nat_lit 2 ∧ x35.3.1 = x35.3.1) ∧ Int.ofNat (0 : Nat) = Int.ofNat (0 : Nat) ∧ Int.ofNat (0 : Nat) = Int.ofNat (0 : Nat) ∧ Int.ofNat (0 : Nat) =
Int.ofNat (0 : Nat) ∧ Int.ofNat (0 : Nat) = Int.ofNat (0 : Nat) ∧ Int.ofNat (0 : Nat) = Int.ofNat (0 : Nat) ∧ True) ∧ (a.2.1 = a.2.1 ∧ a.2.2 = a.2.2 ∧ a.2.3 = a.2.3 ∧ a.2.4 =
a.2.4) ∧ True) ∧ (True ∧ True ∧ (x31.1.1.1 = x31.1.1.1 ∧ x31.1.1.2 = x31.1.1.2 ∧ x31.1.1.3 = x31.1.1.3 ∧ x31.1.1.4 = x31.1.1.4) ∧ True ∧ True ∧ True ∧ True ∧ True ∧ True ∧ True ∧
True ∧ True ∧ True ∧ (x31.1.2.1 = x31.1.2.1 ∧ x31.1.2.2 = x31.1.2.2 ∧ x31.1.2.3 = x31.1.2.3 ∧ x31.1.2.4 = x31.1.2.4) ∧ True) ∧ (True ∧ FlatL x31.1.1.5 ∧ x31.1.1.5 = x31.1.1.5) ∧
(True ∧ FlatL x31.1.2.5 ∧ x31.1.2.5 = x31.1.2.5) ∧ (FlatL [] ∧ True) ∧ (True ∧ FlatL x35.2.2 ∧ x35.2.2 = x35.2.2) ∧ (True ∧ FlatL x35.3.2 ∧ x35.3.2 = x35.3.2) ∧ (True ∧ FlatL a.2.5
∧ a.2.5 = a.2.5) ∧ True) ∧ (∀ (x39 : Unit), True → ∃ (x40 : Unit), True ∧ Bool.true = Bool.true ∧ True) ∧ True) ∧ ((1 : Nat) ≠ (0 : Nat) → Few (1 : Nat) (4 : Nat) ∧ (True ∧ (rlF
x31.1 ∧ okNw (NwA.mk x31.1 (PA.mk (SA.mk Bool.false (0 : Nat) (1 : Nat) (1 : Nat) x37) (SA.mk Bool.false (0 : Nat) (nat_lit 2) x35.2.1 x35.2.2) (SA.mk Bool.false (0 : Nat) (nat_lit
2) x35.3.1 x35.3.2) (Int.ofNat (0 : Nat)) (Int.ofNat (0 : Nat)) (Int.ofNat (0 : Nat)) (Int.ofNat (0 : Nat)) (Int.ofNat (0 : Nat))) a.2) ∧ (nat_lit 1 ≤ (1000 : Nat) ∧ nat_lit 2 ≤
(1000 : Nat) ∧ nat_lit 2 ≤ (1000 : Nat)) ∧ (∃ (x41 : List Int), Sli (Value.int IntKind.i64) (1 : Nat) a.2.1 a.2.2 a.2.3 a.2.4 a.2.5 x41) ∧ a.2.3 ≤ (1000 : Nat)) ∧ nat_lit 1 ≠
x31.1.2.3) ∧ (((0 : Nat) = (0 : Nat) ∧ ((Bool.false = Bool.false ∧ nat_lit 0 = (0 : Nat) ∧ nat_lit 1 = (1 : Nat) ∧ nat_lit 1 = (1 : Nat)) ∧ (Bool.false = Bool.false ∧ nat_lit 0 =
(0 : Nat) ∧ nat_lit 2 = nat_lit 2 ∧ x35.2.1 = x35.2.1) ∧ (Bool.false = Bool.false ∧ nat_lit 0 = (0 : Nat) ∧ nat_lit 2 = nat_lit 2 ∧ x35.3.1 = x35.3.1) ∧ Int.ofNat (0 : Nat) =
Int.ofNat (0 : Nat) ∧ Int.ofNat (0 : Nat) = Int.ofNat (0 : Nat) ∧ Int.ofNat (0 : Nat) = Int.ofNat (0 : Nat) ∧ Int.ofNat (0 : Nat) = Int.ofNat (0 : Nat) ∧ Int.ofNat (0 : Nat) =
Int.ofNat (0 : Nat) ∧ True) ∧ (a.2.1 = a.2.1 ∧ a.2.2 = a.2.2 ∧ a.2.3 = a.2.3 ∧ a.2.4 = a.2.4) ∧ True) ∧ (True ∧ True ∧ (x31.1.1.1 = x31.1.1.1 ∧ x31.1.1.2 = x31.1.1.2 ∧ x31.1.1.3 =
x31.1.1.3 ∧ x31.1.1.4 = x31.1.1.4) ∧ True ∧ True ∧ True ∧ True ∧ True ∧ True ∧ True ∧ True ∧ True ∧ True ∧ (x31.1.2.1 = x31.1.2.1 ∧ x31.1.2.2 = x31.1.2.2 ∧ x31.1.2.3 = x31.1.2.3 ∧
x31.1.2.4 = x31.1.2.4) ∧ True) ∧ (True ∧ FlatL x31.1.1.5 ∧ x31.1.1.5 = x31.1.1.5) ∧ (True ∧ FlatL x31.1.2.5 ∧ x31.1.2.5 = x31.1.2.5) ∧ (True ∧ FlatL x37 ∧ x37 = x37) ∧ (True ∧
FlatL x35.2.2 ∧ x35.2.2 = x35.2.2) ∧ (True ∧ FlatL x35.3.2 ∧ x35.3.2 = x35.3.2) ∧ (True ∧ FlatL a.2.5 ∧ a.2.5 = a.2.5) ∧ True) ∧ (∀ (x42 : Unit), True → ∃ (x43 : Unit), True ∧
Bool.true = Bool.true ∧ True) ∧ True)) ∧ (Bool.false = Bool.false → (1 : Nat) ≤ List.length [Value.iface (1000000007 : Nat) (Value.int IntKind.i32 a.3)] ∧ ∀ (x44 : List Value), x44
= lwin [Value.iface (1000000007 : Nat) (Value.int IntKind.i32 a.3)] (0 : Nat) (1 : Nat) → ((0 : Nat) = (0 : Nat) ∧ List.length x35.1.2 = nat_lit 2 * (1 : Nat) ∧ x35.1.1 = x35.1.1 ∧
nat_lit 2 ≤ x35.1.1 ∧ Few (nat_lit 2 + (1 : Nat)) (4 : Nat) ∧ lall oneK x44 = Bool.true) ∧ ∀ (x45 x46 : Nat), x45 = nat_lit 2 + (1 : Nat) → (x46 = if x45 ≤ RW.k (PB.b1 x35) then
x35.1.1 else x45) → (True ∧ (rlF x31.1 ∧ okNw (NwA.mk x31.1 (PA.mk (SA.mk Bool.false (0 : Nat) x45 x46 (x35.1.2 ++ x44)) (SA.mk Bool.false (0 : Nat) (nat_lit 2) x35.2.1 x35.2.2)
(SA.mk Bool.false (0 : Nat) (nat_lit 2) x35.3.1 x35.3.2) (Int.ofNat (0 : Nat)) (Int.ofNat (0 : Nat)) (Int.ofNat (0 : Nat)) (Int.ofNat (0 : Nat)) (Int.ofNat (0 : Nat))) a.2) ∧ (x45
≤ (1000 : Nat) ∧ nat_lit 2 ≤ (1000 : Nat) ∧ nat_lit 2 ≤ (1000 : Nat)) ∧ (∃ (x47 : List Int), Sli (Value.int IntKind.i64) (1 : Nat) a.2.1 a.2.2 a.2.3 a.2.4 a.2.5 x47) ∧ a.2.3 ≤
(1000 : Nat)) ∧ x45 ≠ x31.1.2.3) ∧ (((0 : Nat) = (0 : Nat) ∧ ((Bool.false = Bool.false ∧ nat_lit 0 = (0 : Nat) ∧ x45 = x45 ∧ x46 = x46) ∧ (Bool.false = Bool.false ∧ nat_lit 0 = (0
: Nat) ∧ nat_lit 2 = nat_lit 2 ∧ x35.2.1 = x35.2.1) ∧ (Bool.false = Bool.false ∧ nat_lit 0 = (0 : Nat) ∧ nat_lit 2 = nat_lit 2 ∧ x35.3.1 = x35.3.1) ∧ Int.ofNat (0 : Nat) =
Int.ofNat (0 : Nat) ∧ Int.ofNat (0 : Nat) = Int.ofNat (0 : Nat) ∧ Int.ofNat (0 : Nat) = Int.ofNat (0 : Nat) ∧ Int.ofNat (0 : Nat) = Int.ofNat (0 : Nat) ∧ Int.ofNat (0 : Nat) =
Int.ofNat (0 : Nat) ∧ True) ∧ (a.2.1 = a.2.1 ∧ a.2.2 = a.2.2 ∧ a.2.3 = a.2.3 ∧ a.2.4 = a.2.4) ∧ True) ∧ (True ∧ True ∧ (x31.1.1.1 = x31.1.1.1 ∧ x31.1.1.2 = x31.1.1.2 ∧ x31.1.1.3 =
x31.1.1.3 ∧ x31.1.1.4 = x31.1.1.4) ∧ True ∧ True ∧ True ∧ True ∧ True ∧ True ∧ True ∧ True ∧ True ∧ True ∧ (x31.1.2.1 = x31.1.2.1 ∧ x31.1.2.2 = x31.1.2.2 ∧ x31.1.2.3 = x31.1.2.3 ∧
x31.1.2.4 = x31.1.2.4) ∧ True) ∧ (True ∧ FlatL x31.1.1.5 ∧ x31.1.1.5 = x31.1.1.5) ∧ (True ∧ FlatL x31.1.2.5 ∧ x31.1.2.5 = x31.1.2.5) ∧ (True ∧ FlatL (x35.1.2 ++ x44) ∧ x35.1.2 ++
x44 = x35.1.2 ++ x44) ∧ (True ∧ FlatL x35.2.2 ∧ x35.2.2 = x35.2.2) ∧ (True ∧ FlatL x35.3.2 ∧ x35.3.2 = x35.3.2) ∧ (True ∧ FlatL a.2.5 ∧ a.2.5 = a.2.5) ∧ True) ∧ (∀ (x48 : Unit),
True → ∃ (x49 : Unit), True ∧ Bool.true = Bool.true ∧ True) ∧ True)) ∧ True)) ∧ True) ∧ True)) ∧ True) := by kernel_rfl
theorem okNw_of {b : StO} (h : okSt b) (s : SA) : okNw ⟨b.g, b.p, s⟩ := by
  obtain ⟨-, h1, h2, x, cs, hp, hc, hi⟩ := h
  exact ⟨x, cs, hp, hc, fun _ => hi, ⟨rfl, rfl, rfl, rfl, rfl⟩, h1.symm, h1.symm⟩
theorem okNw_bad {b : StO} (h : okSt b) {pb : PB} (hp : ∀ x, PH b.p x → PH (pb.pa b.p) x) (hl : pb.b1.c.length = 2) {n k : Nat} (hn : n = 3) (hk : 3 ≤ k) (z : Int) (s : SA) :
    okNw ⟨b.g, ⟨⟨false, 0, n, k, pb.b1.c ++ [tgI .i32 z]⟩, ⟨false, 0, 2, pb.b2.k, pb.b2.c⟩, ⟨false, 0, 2, pb.b3.k, pb.b3.c⟩, 0, 0, 0, 0, 0⟩, s⟩ := by
  obtain ⟨-, h1, h2, x, cs, hx, hc, hi⟩ := h
  have hq := hp x hx
  have q1 : Sli (Value.int .i32) 1 false 0 2 pb.b1.k pb.b1.c x.vars := hq.p1
  have hw : HW (Value.int .i32) pb.b1.c x.vars := ⟨by have := q1.len; omega, q1.at_⟩
  have hs : HW (Value.int .i32) (pb.b1.c ++ [tgI .i32 z]) (x.vars ++ [z]) := HW.snoc hw
  refine ⟨⟨x.vars ++ [z], x.gone, x.tips⟩, cs, ⟨Sli.row hs (by subst hn; rw [List.length_append]; have := q1.len; simp; omega) (by show n ≤ k; omega) hs.flat, hq.p2, hq.p3⟩, hc, fun e => ?_, ⟨rfl, rfl, rfl, rfl, rfl⟩, h1.symm, h1.symm⟩
  have e : n = b.g.ce.l := e
  omega
theorem flatAll {l : List Value} (h : l.all ftag = true) : FlatL l := fun v hv => List.all_eq_true.1 h v hv
theorem flc0 : FlatL cells0 := flatAll (by kernel_rfl)
theorem flc1 : FlatL cells1 := flatAll (by kernel_rfl)
theorem flc2 : FlatL cells2 := flatAll (by kernel_rfl)
theorem flc4 : FlatL cells4 := flatAll (by kernel_rfl)
theorem flc5 : FlatL cells5 := flatAll (by kernel_rfl)
theorem flc6 : FlatL cells6 := flatAll (by kernel_rfl)
theorem flc8 : FlatL cells8 := flatAll (by kernel_rfl)
theorem flc9 : FlatL cells9 := flatAll (by kernel_rfl)
theorem flc10 : FlatL cells10 := flatAll (by kernel_rfl)
set_option maxHeartbeats 1600000 in
theorem g_none3 (a : NnA) (xs : List Int) (hw : 0 ≤ a.w ∧ a.w < 256) (h : Sli (Value.int .i64) 1 a.s.n a.s.o a.s.l a.s.k a.s.c xs) (hc : a.s.l ≠ 2) : GW (G_none3 a xs) := by
  have hf := h.flat
  have hlen : xs.length = a.s.l * 1 := h.len
  have c0 := flc0; have c1 := flc1; have c2 := flc2; have c4 := flc4; have c5 := flc5; have c6 := flc6; have c8 := flc8; have c9 := flc9; have c10 := flc10
  refine ⟨?_⟩
  rw [vc_none3]
  refine ⟨by (repeat' first | with_reducible apply And.intro | exact trivial | with_reducible assumption | with_reducible rfl | exact rfl), by (repeat' first | with_reducible apply And.intro | exact trivial | with_reducible assumption | with_reducible rfl | exact rfl), fun _ _ x1 e1 => ⟨fun hgt => ⟨by (repeat' first | with_reducible apply And.intro | exact trivial | with_reducible assumption | with_reducible rfl | exact rfl), by (repeat' first | with_reducible apply And.intro | exact trivial | with_reducible assumption | with_reducible rfl | exact rfl), fun _ _ => ⟨(), trivial, rfl, trivial⟩, trivial⟩, fun hle => ?_⟩, trivial⟩
  have hm : a.s.l ≤ 1000 := by have : ¬ (10 : Int) < x1 := hle; have : x1 = (a.s.l : Int) := e1; omega
  refine ⟨⟨trivial, hw⟩, by (repeat' first | with_reducible apply And.intro | exact trivial | with_reducible assumption | with_reducible rfl | exact rfl), fun b hb => ?_, trivial⟩
  have hok : okSt b := hb
  obtain ⟨⟨r1, r2⟩, hst, hce, px, cs, hpx, hcs, hin⟩ := hok
  have f1 := hpx.p1.flat
  have f2 := hpx.p2.flat
  have f3 := hpx.p3.flat
  refine ⟨⟨trivial, ⟨⟨r1, r2⟩, okNw_of hb a.s, ⟨by decide, by decide, by decide⟩, ⟨xs, h⟩, hm⟩, hce.symm, fun e => hc (e.trans hst)⟩, by (repeat' first | with_reducible apply And.intro | exact trivial | with_reducible assumption | with_reducible rfl | exact rfl), fun _ _ x9 e9 => ?_, trivial⟩
  refine ⟨⟨b, 0, 0, 0⟩, ⟨⟨⟨Int.le_refl 0, Int.natCast_nonneg _⟩, trivial⟩, hb⟩, by (have e9 := e9.symm; ((repeat' first | with_reducible apply And.intro | exact trivial | with_reducible assumption | with_reducible rfl | exact rfl))), ?_⟩
  rintro ⟨c, k, q, z⟩ ⟨⟨⟨h0, h1⟩, -⟩, hc2⟩
  dsimp only at h0 h1
  have hc3 : okSt c := hc2
  obtain ⟨⟨s1, s2⟩, -, -, qx, ds, hqx, -, -⟩ := hc3
  have t1 := hqx.p1.flat
  have t2 := hqx.p2.flat
  have t3 := hqx.p3.flat
  refine ⟨fun hlt => ⟨⟨h0, hlt⟩, fun x3 e3 => ⟨xs.getD k.toNat 0, rd_at h h0 hlt e3, fun _ x5 e5 => ?_, fun _ => ⟨fun _ x5 e5 => ?_, fun _ y ey x5 e5 => ?_⟩⟩⟩, fun hge => ⟨fun x21 e21 => ⟨fun _ => ?_, fun n => ?_⟩, ?_⟩⟩
  · have e5 : x5 = k + 1 := e5.trans (wrap_k h0 hlt hm)
    have hlt' : k < (a.s.l : Int) := hlt
    refine ⟨⟨c, k + 1, 2, z⟩, ⟨⟨⟨by show 0 ≤ k + 1; omega, by show k + 1 ≤ (a.s.l : Int); omega⟩, trivial⟩, hc2⟩, by show ((a.s.l : Int) - (k + 1)).toNat < ((a.s.l : Int) - k).toNat; omega, ?_⟩
    subst e5
    (repeat' first | with_reducible apply And.intro | exact trivial | with_reducible assumption | with_reducible rfl | exact rfl)
  · have e5 : x5 = k + 1 := e5.trans (wrap_k h0 hlt hm)
    have hlt' : k < (a.s.l : Int) := hlt
    refine ⟨⟨c, k + 1, 2, z⟩, ⟨⟨⟨by show 0 ≤ k + 1; omega, by show k + 1 ≤ (a.s.l : Int); omega⟩, trivial⟩, hc2⟩, by show ((a.s.l : Int) - (k + 1)).toNat < ((a.s.l : Int) - k).toNat; omega, ?_⟩
    subst e5
    (repeat' first | with_reducible apply And.intro | exact trivial | with_reducible assumption | with_reducible rfl | exact rfl)
  · have e5 : x5 = k + 1 := e5.trans (wrap_k h0 hlt hm)
    have hlt' : k < (a.s.l : Int) := hlt
    refine ⟨⟨c, k + 1, q, y⟩, ⟨⟨⟨by show 0 ≤ k + 1; omega, by show k + 1 ≤ (a.s.l : Int); omega⟩, trivial⟩, hc2⟩, by show ((a.s.l : Int) - (k + 1)).toNat < ((a.s.l : Int) - k).toNat; omega, ?_⟩
    subst e5
    (repeat' first | with_reducible apply And.intro | exact trivial | with_reducible assumption | with_reducible rfl | exact rfl)
  · refine ⟨c, hc2, ?_⟩
    (repeat' first | with_reducible apply And.intro | exact trivial | with_reducible assumption | with_reducible rfl | exact rfl)
  · exact (hc (by have : ¬ x21 ≠ 2 := n; have : x21 = (a.s.l : Int) := e21; omega)).elim
  · intro b hb; have hok : okSt b := hb; obtain ⟨hrl, hst, hce, px, cs, hpx, hcs, hin⟩ := hok; have f1 := hpx.p1.flat; have f2 := hpx.p2.flat; have f3 := hpx.p3.flat; obtain ⟨r1, r2⟩ := hrl; refine ⟨⟨trivial, ⟨px, hpx⟩, by decide, by decide, by decide⟩, by (repeat' first | with_reducible apply And.intro | exact trivial | with_reducible assumption | with_reducible rfl | exact rfl), fun pb hpb => ⟨(fun hf => nomatch hf), fun _ => ⟨Nat.le_refl 1, fun ys hys => ?_⟩⟩, trivial⟩; obtain ⟨hp1, hp2⟩ := hpb; have hl := hp2 rfl; have hq := hp1 _ hpx; have g1 := hq.p1.flat; have g2 := hq.p2.flat; have g3 := hq.p3.flat; have hcap : 2 ≤ pb.b1.k := hq.p1.cap; have hys : ys = [tgI .i32 a.n] := hys; subst hys; refine ⟨⟨rfl, hl, rfl, hcap, by unfold Few; decide, rfl⟩, fun n k hn hk => ?_⟩; have hn : n = 3 := hn; have hk : k = if n ≤ pb.b1.k then pb.b1.k else n := hk; have hk3 : 3 ≤ k := (by rw [hk]; split <;> omega); have g4 : FlatL (pb.b1.c ++ [tgI .i32 a.n]) := (fun v hv => (List.mem_append.1 hv).elim (g1 v) (fun e => by rw [List.mem_singleton.1 e]; exact ftag_tgI _ _)); refine ⟨⟨trivial, ⟨⟨r1, r2⟩, okNw_bad hb hp1 hl hn hk3 a.n a.s, ⟨by omega, by decide, by decide⟩, ⟨xs, h⟩, hm⟩, fun e => ?_⟩, by (repeat' first | with_reducible apply And.intro | exact trivial | with_reducible assumption | with_reducible rfl | exact rfl), fun _ _ => ⟨(), trivial, rfl, trivial⟩, trivial⟩; have e : n = b.g.ce.l := e; omega
theorem wantR_snoc (l : List Int) (x : Int) : wantR (l ++ [x]) = if 0 ≤ x ∧ x ≤ 1125899906842624 then wantR l else 2 := by simp only [wantR, List.foldl_append, List.foldl_cons, List.foldl_nil]
theorem fold_want : ∀ (l : List Int) (w : Int), (inRt l → l.foldl (fun w x => if 0 ≤ x ∧ x ≤ 1125899906842624 then w else 2) w = w) ∧ (¬ inRt l ∨ w = 2 → l.foldl (fun w x => if 0 ≤ x ∧ x ≤ 1125899906842624 then w else 2) w = 2)
  | [], w => ⟨fun _ => rfl, fun h => h.elim (fun n => absurd (fun _ hx => nomatch hx) n) id⟩
  | x :: l, w => by
    obtain ⟨h1, h2⟩ := fold_want l (if 0 ≤ x ∧ x ≤ 1125899906842624 then w else 2)
    refine ⟨fun h => ?_, fun h => h2 ?_⟩
    · have hx : 0 ≤ x ∧ x ≤ 1125899906842624 := h x List.mem_cons_self
      rw [List.foldl_cons, if_pos hx]
      rw [if_pos hx] at h1
      exact h1 fun y hy => h y (List.mem_cons_of_mem _ hy)
    · by_cases hx : 0 ≤ x ∧ x ≤ 1125899906842624
      · rw [if_pos hx]
        rcases h with h | h
        · exact .inl fun hl => h fun y hy => (List.mem_cons.1 hy).elim (fun e => by rw [e]; exact hx) (hl y)
        · exact .inr h
      · rw [if_neg hx]; exact .inr rfl
theorem wantR_2 {l : List Int} (h : ¬ inRt l) : wantR l = 2 := (fold_want l 0).2 (.inl h)
theorem sum_bound : ∀ (l : List Int) (n : Int), inRt l → 0 ≤ n → n + 1125899906842624 * (l.length : Int) ≤ 9223372036854775807 → 0 ≤ l.foldl (fun s v => IntKind.wrap .i64 (s + v)) n
  | [], n, _, h0, _ => h0
  | x :: l, n, h, h0, h1 => by
    have hx := h x List.mem_cons_self
    rw [List.length_cons, Int.natCast_add] at h1
    have hx0 := hx.1
    have hx1 := hx.2
    have e : IntKind.wrap .i64 (n + x) = n + x := by
      rw [wrap_i64]
      have : (0 : Int) ≤ (l.length : Int) := Int.natCast_nonneg _
      omega
    rw [List.foldl_cons, e]
    refine sum_bound l (n + x) (fun y hy => h y (List.mem_cons_of_mem _ hy)) (by omega) ?_
    omega
theorem sum_nonneg {l : List Int} (h : inRt l) (hl : l.length ≤ 1000) : 0 ≤ sumC l := sum_bound l 0 h (Int.le_refl 0) (by omega)
set_option maxHeartbeats 1600000 in
theorem g_none2 (a : NnA) (xs : List Int) (hw : 0 ≤ a.w ∧ a.w < 256) (h : Sli (Value.int .i64) 1 a.s.n a.s.o a.s.l a.s.k a.s.c xs) (hc : a.s.l = 2 ∧ ¬ inRt xs) : GW (G_none2 a xs) := by
  have hf := h.flat
  have hlen : xs.length = a.s.l * 1 := h.len
  have c0 := flc0; have c1 := flc1; have c2 := flc2; have c4 := flc4; have c5 := flc5; have c6 := flc6; have c8 := flc8; have c9 := flc9; have c10 := flc10
  refine ⟨?_⟩
  rw [vc_none2]
  refine ⟨by (repeat' first | with_reducible apply And.intro | exact trivial | with_reducible assumption | with_reducible rfl | exact rfl), by (repeat' first | with_reducible apply And.intro | exact trivial | with_reducible assumption | with_reducible rfl | exact rfl), fun _ _ x1 e1 => ⟨fun hgt => ⟨by (repeat' first | with_reducible apply And.intro | exact trivial | with_reducible assumption | with_reducible rfl | exact rfl), by (repeat' first | with_reducible apply And.intro | exact trivial | with_reducible assumption | with_reducible rfl | exact rfl), fun _ _ => ⟨(), trivial, rfl, trivial⟩, trivial⟩, fun hle => ?_⟩, trivial⟩
  have hm : a.s.l ≤ 1000 := by have : ¬ (10 : Int) < x1 := hle; have : x1 = (a.s.l : Int) := e1; omega
  refine ⟨⟨trivial, hw⟩, by (repeat' first | with_reducible apply And.intro | exact trivial | with_reducible assumption | with_reducible rfl | exact rfl), fun b hb => ?_, trivial⟩
  have hok : okSt b := hb
  obtain ⟨⟨r1, r2⟩, hst, hce, px, cs, hpx, hcs, hin⟩ := hok
  have f1 := hpx.p1.flat
  have f2 := hpx.p2.flat
  have f3 := hpx.p3.flat
  refine ⟨⟨trivial, ⟨⟨r1, r2⟩, okNw_of hb a.s, ⟨by decide, by decide, by decide⟩, ⟨xs, h⟩, hm⟩, hce.symm, ⟨hc.1.trans hst.symm, fun ys hy => by rw [Sli.uniqI hy h]; exact hc.2⟩⟩, by (repeat' first | with_reducible apply And.intro | exact trivial | with_reducible assumption | with_reducible rfl | exact rfl), fun _ _ x9 e9 => ?_, trivial⟩
  refine ⟨⟨⟨b, 0, 0, 0⟩, ⟨⟨⟨Int.le_refl 0, Int.natCast_nonneg _⟩, rfl⟩, hb⟩, by (have e9 := e9.symm; ((repeat' first | with_reducible apply And.intro | exact trivial | with_reducible assumption | with_reducible rfl | exact rfl))), ?_⟩, ?_⟩
  rintro ⟨c, k, q, z⟩ ⟨⟨⟨h0, h1⟩, hq⟩, hc2⟩
  dsimp only at h0 h1 hq
  have hc3 : okSt c := hc2
  obtain ⟨⟨s1, s2⟩, -, -, qx, ds, hqx, -, -⟩ := hc3
  have t1 := hqx.p1.flat
  have t2 := hqx.p2.flat
  have t3 := hqx.p3.flat
  refine ⟨fun hlt => ⟨⟨h0, hlt⟩, fun x3 e3 => ⟨xs.getD k.toNat 0, rd_at h h0 hlt e3, fun v0 x5 e5 => ?_, fun v0 => ⟨fun v1 x5 e5 => ?_, fun v1 y ey x5 e5 => ?_⟩⟩⟩, fun hge => ?_⟩
  · have e5 : x5 = k + 1 := e5.trans (wrap_k h0 hlt hm)
    have hlt' : k < (a.s.l : Int) := hlt
    have hz := show (2 : Int) = wantR (xs.take (k + 1).toNat) from (by rw [take_next h0 (by omega), wantR_snoc, if_neg (fun r => absurd r.1 (Int.not_le.2 v0))])
    refine ⟨⟨c, k + 1, 2, z⟩, ⟨⟨⟨by show 0 ≤ k + 1; omega, by show k + 1 ≤ (a.s.l : Int); omega⟩, hz⟩, hc2⟩, by show ((a.s.l : Int) - (k + 1)).toNat < ((a.s.l : Int) - k).toNat; omega, ?_⟩
    subst e5
    (repeat' first | with_reducible apply And.intro | exact trivial | with_reducible assumption | with_reducible rfl | exact rfl)
  · have e5 : x5 = k + 1 := e5.trans (wrap_k h0 hlt hm)
    have hlt' : k < (a.s.l : Int) := hlt
    have hz := show (2 : Int) = wantR (xs.take (k + 1).toNat) from (by rw [take_next h0 (by omega), wantR_snoc, if_neg (fun r => absurd r.2 (Int.not_le.2 v1))])
    refine ⟨⟨c, k + 1, 2, z⟩, ⟨⟨⟨by show 0 ≤ k + 1; omega, by show k + 1 ≤ (a.s.l : Int); omega⟩, hz⟩, hc2⟩, by show ((a.s.l : Int) - (k + 1)).toNat < ((a.s.l : Int) - k).toNat; omega, ?_⟩
    subst e5
    (repeat' first | with_reducible apply And.intro | exact trivial | with_reducible assumption | with_reducible rfl | exact rfl)
  · have e5 : x5 = k + 1 := e5.trans (wrap_k h0 hlt hm)
    have hlt' : k < (a.s.l : Int) := hlt
    have hz := show q = wantR (xs.take (k + 1).toNat) from (by rw [take_next h0 (by omega), wantR_snoc, if_pos ⟨Int.not_lt.1 v0, Int.not_lt.1 v1⟩]; exact hq)
    refine ⟨⟨c, k + 1, q, y⟩, ⟨⟨⟨by show 0 ≤ k + 1; omega, by show k + 1 ≤ (a.s.l : Int); omega⟩, hz⟩, hc2⟩, by show ((a.s.l : Int) - (k + 1)).toNat < ((a.s.l : Int) - k).toNat; omega, ?_⟩
    subst e5
    (repeat' first | with_reducible apply And.intro | exact trivial | with_reducible assumption | with_reducible rfl | exact rfl)
  · have hkl : k.toNat = xs.length := by have : ¬ k < (a.s.l : Int) := hge; have : k ≤ (a.s.l : Int) := h1; omega
    have hq2 : q = 2 := by rw [hq, hkl, List.take_length]; exact wantR_2 hc.2
    refine ⟨⟨c, 0, 0, z⟩, hc2, ?_⟩
    subst hq2
    (repeat' first | with_reducible apply And.intro | exact trivial | with_reducible assumption | with_reducible rfl | exact rfl)
  · rintro ⟨c, k, q, z⟩ hc2
    have hc3 : okSt c := hc2
    obtain ⟨⟨s1, s2⟩, -, -, qx, ds, hqx, -, -⟩ := hc3
    have t1 := hqx.p1.flat
    have t2 := hqx.p2.flat
    have t3 := hqx.p3.flat
    refine ⟨fun x21 e21 => ⟨fun n => (n (by have : x21 = (a.s.l : Int) := e21; have := hc.1; omega)).elim, fun _ => ⟨c, hc2, ?_⟩⟩, ?_⟩
    · (repeat' first | with_reducible apply And.intro | exact trivial | with_reducible assumption | with_reducible rfl | exact rfl)
    · intro b hb; have hok : okSt b := hb; obtain ⟨hrl, hst, hce, px, cs, hpx, hcs, hin⟩ := hok; have f1 := hpx.p1.flat; have f2 := hpx.p2.flat; have f3 := hpx.p3.flat; obtain ⟨r1, r2⟩ := hrl; refine ⟨⟨trivial, ⟨px, hpx⟩, by decide, by decide, by decide⟩, by (repeat' first | with_reducible apply And.intro | exact trivial | with_reducible assumption | with_reducible rfl | exact rfl), fun pb hpb => ⟨(fun hf => nomatch hf), fun _ => ⟨Nat.le_refl 1, fun ys hys => ?_⟩⟩, trivial⟩; obtain ⟨hp1, hp2⟩ := hpb; have hl := hp2 rfl; have hq := hp1 _ hpx; have g1 := hq.p1.flat; have g2 := hq.p2.flat; have g3 := hq.p3.flat; have hcap : 2 ≤ pb.b1.k := hq.p1.cap; have hys : ys = [tgI .i32 a.n] := hys; subst hys; refine ⟨⟨rfl, hl, rfl, hcap, by unfold Few; decide, rfl⟩, fun n k hn hk => ?_⟩; have hn : n = 3 := hn; have hk : k = if n ≤ pb.b1.k then pb.b1.k else n := hk; have hk3 : 3 ≤ k := (by rw [hk]; split <;> omega); have g4 : FlatL (pb.b1.c ++ [tgI .i32 a.n]) := (fun v hv => (List.mem_append.1 hv).elim (g1 v) (fun e => by rw [List.mem_singleton.1 e]; exact ftag_tgI _ _)); refine ⟨⟨trivial, ⟨⟨r1, r2⟩, okNw_bad hb hp1 hl hn hk3 a.n a.s, ⟨by omega, by decide, by decide⟩, ⟨xs, h⟩, hm⟩, fun e => ?_⟩, by (repeat' first | with_reducible apply And.intro | exact trivial | with_reducible assumption | with_reducible rfl | exact rfl), fun _ _ => ⟨(), trivial, rfl, trivial⟩, trivial⟩; have e : n = b.g.ce.l := e; omega
set_option maxHeartbeats 1600000 in
theorem g_none22 (a : NnA) (xs : List Int) (hw : 0 ≤ a.w ∧ a.w < 256) (h : Sli (Value.int .i64) 1 a.s.n a.s.o a.s.l a.s.k a.s.c xs) (hc : a.s.l = 2 ∧ inRt xs ∧ ¬ rightP (sumC xs)) : GW (G_none22 a xs) := by
  have hf := h.flat
  have hlen : xs.length = a.s.l * 1 := h.len
  have c0 := flc0; have c1 := flc1; have c2 := flc2; have c4 := flc4; have c5 := flc5; have c6 := flc6; have c8 := flc8; have c9 := flc9; have c10 := flc10
  refine ⟨?_⟩
  rw [vc_none22]
  refine ⟨by (repeat' first | with_reducible apply And.intro | exact trivial | with_reducible assumption | with_reducible rfl | exact rfl), by (repeat' first | with_reducible apply And.intro | exact trivial | with_reducible assumption | with_reducible rfl | exact rfl), fun _ _ x1 e1 => ⟨fun hgt => ⟨by (repeat' first | with_reducible apply And.intro | exact trivial | with_reducible assumption | with_reducible rfl | exact rfl), by (repeat' first | with_reducible apply And.intro | exact trivial | with_reducible assumption | with_reducible rfl | exact rfl), fun _ _ => ⟨(), trivial, rfl, trivial⟩, trivial⟩, fun hle => ?_⟩, trivial⟩
  have hm : a.s.l ≤ 1000 := by have : ¬ (10 : Int) < x1 := hle; have : x1 = (a.s.l : Int) := e1; omega
  refine ⟨⟨trivial, hw⟩, by (repeat' first | with_reducible apply And.intro | exact trivial | with_reducible assumption | with_reducible rfl | exact rfl), fun b hb => ?_, trivial⟩
  have hok : okSt b := hb
  obtain ⟨⟨r1, r2⟩, hst, hce, px, cs, hpx, hcs, hin⟩ := hok
  have f1 := hpx.p1.flat
  have f2 := hpx.p2.flat
  have f3 := hpx.p3.flat
  refine ⟨⟨trivial, ⟨⟨r1, r2⟩, okNw_of hb a.s, ⟨by decide, by decide, by decide⟩, ⟨xs, h⟩, hm⟩, hce.symm, ⟨hc.1.trans hst.symm, fun ys hy => by rw [Sli.uniqI hy h]; exact hc.2⟩⟩, by (repeat' first | with_reducible apply And.intro | exact trivial | with_reducible assumption | with_reducible rfl | exact rfl), fun _ _ x9 e9 => ?_, trivial⟩
  refine ⟨⟨b, 0, 0, 0⟩, ⟨⟨⟨Int.le_refl 0, Int.natCast_nonneg _⟩, rfl⟩, hb⟩, by (have e9 := e9.symm; ((repeat' first | with_reducible apply And.intro | exact trivial | with_reducible assumption | with_reducible rfl | exact rfl))), ?_⟩
  rintro ⟨c, k, q, z⟩ ⟨⟨⟨h0, h1⟩, hq⟩, hc2⟩
  dsimp only at h0 h1 hq
  have hc3 : okSt c := hc2
  obtain ⟨⟨s1, s2⟩, -, -, qx, ds, hqx, -, -⟩ := hc3
  have t1 := hqx.p1.flat
  have t2 := hqx.p2.flat
  have t3 := hqx.p3.flat
  have hin : k < (a.s.l : Int) → rightP (xs.getD k.toNat 0) := fun hlt => hc.2.1 _ (by simp [List.getD, show k.toNat < xs.length by omega])
  refine ⟨fun hlt => ⟨⟨h0, hlt⟩, fun x3 e3 => ⟨xs.getD k.toNat 0, rd_at h h0 hlt e3, fun v0 x5 e5 => ?_, fun v0 => ⟨fun v1 x5 e5 => ?_, fun v1 y ey x5 e5 => ?_⟩⟩⟩, fun hge => ⟨fun x21 e21 => ⟨fun n => ?_, fun _ => ⟨fun v2 => ?_, fun v2 => ?_⟩⟩, ?_⟩⟩
  · exact absurd (hin hlt).1 (Int.not_le.2 v0)
  · exact absurd (hin hlt).2 (Int.not_le.2 v1)
  · have e5 : x5 = k + 1 := e5.trans (wrap_k h0 hlt hm)
    have hlt' : k < (a.s.l : Int) := hlt
    have hz := show y = sumC (xs.take (k + 1).toNat) from (by rw [take_next h0 (by omega), sumC_snoc, ← hq]; exact ey)
    refine ⟨⟨c, k + 1, 0, y⟩, ⟨⟨⟨by show 0 ≤ k + 1; omega, by show k + 1 ≤ (a.s.l : Int); omega⟩, hz⟩, hc2⟩, by show ((a.s.l : Int) - (k + 1)).toNat < ((a.s.l : Int) - k).toNat; omega, ?_⟩
    subst e5
    (repeat' first | with_reducible apply And.intro | exact trivial | with_reducible assumption | with_reducible rfl | exact rfl)
  · exact (n (by have : x21 = (a.s.l : Int) := e21; have := hc.1; omega)).elim
  · refine ⟨c, hc2, ?_⟩
    (repeat' first | with_reducible apply And.intro | exact trivial | with_reducible assumption | with_reducible rfl | exact rfl)
  · have hkl : k.toNat = xs.length := by have : ¬ k < (a.s.l : Int) := hge; have : k ≤ (a.s.l : Int) := h1; omega
    have hq2 : z = sumC xs := by rw [hq, hkl, List.take_length]
    exact (hc.2.2 ⟨sum_nonneg hc.2.1 (by omega), by rw [← hq2]; exact Int.not_lt.1 v2⟩).elim
  · intro b hb; have hok : okSt b := hb; obtain ⟨hrl, hst, hce, px, cs, hpx, hcs, hin⟩ := hok; have f1 := hpx.p1.flat; have f2 := hpx.p2.flat; have f3 := hpx.p3.flat; obtain ⟨r1, r2⟩ := hrl; refine ⟨⟨trivial, ⟨px, hpx⟩, by decide, by decide, by decide⟩, by (repeat' first | with_reducible apply And.intro | exact trivial | with_reducible assumption | with_reducible rfl | exact rfl), fun pb hpb => ⟨(fun hf => nomatch hf), fun _ => ⟨Nat.le_refl 1, fun ys hys => ?_⟩⟩, trivial⟩; obtain ⟨hp1, hp2⟩ := hpb; have hl := hp2 rfl; have hq := hp1 _ hpx; have g1 := hq.p1.flat; have g2 := hq.p2.flat; have g3 := hq.p3.flat; have hcap : 2 ≤ pb.b1.k := hq.p1.cap; have hys : ys = [tgI .i32 a.n] := hys; subst hys; refine ⟨⟨rfl, hl, rfl, hcap, by unfold Few; decide, rfl⟩, fun n k hn hk => ?_⟩; have hn : n = 3 := hn; have hk : k = if n ≤ pb.b1.k then pb.b1.k else n := hk; have hk3 : 3 ≤ k := (by rw [hk]; split <;> omega); have g4 : FlatL (pb.b1.c ++ [tgI .i32 a.n]) := (fun v hv => (List.mem_append.1 hv).elim (g1 v) (fun e => by rw [List.mem_singleton.1 e]; exact ftag_tgI _ _)); refine ⟨⟨trivial, ⟨⟨r1, r2⟩, okNw_bad hb hp1 hl hn hk3 a.n a.s, ⟨by omega, by decide, by decide⟩, ⟨xs, h⟩, hm⟩, fun e => ?_⟩, by (repeat' first | with_reducible apply And.intro | exact trivial | with_reducible assumption | with_reducible rfl | exact rfl), fun _ _ => ⟨(), trivial, rfl, trivial⟩, trivial⟩; have e : n = b.g.ce.l := e; omega
end Go.Proofs.YthcldogebnjohaaGreatDoor
