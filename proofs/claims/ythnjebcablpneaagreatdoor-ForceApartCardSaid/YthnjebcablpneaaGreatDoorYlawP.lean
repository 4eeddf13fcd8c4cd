/- The law that what is handed in stays: it is so. -/
import Derived.Test.YthnjebcablpneaaGreatDoorYlaw
set_option maxRecDepth 100000
namespace Go.Proofs.YthnjebcablpneaaGreatDoor
open Go.Ev
noncomputable section
def W_G_apart_0 : LL → Option AO := fun (x21 : LL) => Option.some (AO.row [Value.iface (1000000009 : Nat) (Value.agg (Array.mk [Value.bool (PA.s1 (LL.w x21)).1, Value.slice (Option.some (Addr.mk (18 : Nat) (PA.s1
(LL.w x21)).2 Option.none)) (PA.s1 (LL.w x21)).3 (PA.s1 (LL.w x21)).4])), Value.iface (1000000009 : Nat) (Value.agg (Array.mk [Value.bool (PA.s2 (LL.w x21)).1, Value.slice
(Option.some (Addr.mk (19 : Nat) (PA.s2 (LL.w x21)).2 Option.none)) (PA.s2 (LL.w x21)).3 (PA.s2 (LL.w x21)).4])), Value.iface (1000000009 : Nat) (Value.agg (Array.mk [Value.bool
(PA.s3 (LL.w x21)).1, Value.slice (Option.some (Addr.mk (20 : Nat) (PA.s3 (LL.w x21)).2 Option.none)) (PA.s3 (LL.w x21)).3 (PA.s3 (LL.w x21)).4])), Value.iface (1000000007 : Nat)
(Value.int IntKind.i64 (LL.w x21).4), Value.iface (1000000007 : Nat) (Value.int IntKind.i64 (LL.w x21).5), Value.iface (1000000007 : Nat) (Value.int IntKind.i64 (LL.w x21).6),
Value.iface (1000000007 : Nat) (Value.int IntKind.i64 (LL.w x21).7), Value.iface (1000000007 : Nat) (Value.int IntKind.u64 (LL.w x21).8)] (35 : Nat) Md.own)
end
theorem vc_apart (a : AA) : G_apart a = ((True ∧ (∃ (x0 : PX), PH (PA.mk (SA.mk (PA.s1 (AA.p a)).1 (PA.s1 (AA.p a)).2 (PA.s1 (AA.p a)).3 (PA.s1 (AA.p a)).4 (PA.s1 (AA.p a)).5) (SA.mk (PA.s2 (AA.p a)).1 (PA.s2 (AA.p a)).2
(PA.s2 (AA.p a)).3 (PA.s2 (AA.p a)).4 (PA.s2 (AA.p a)).5) (SA.mk (PA.s3 (AA.p a)).1 (PA.s3 (AA.p a)).2 (PA.s3 (AA.p a)).3 (PA.s3 (AA.p a)).4 (PA.s3 (AA.p a)).5) (AA.p a).4 (AA.p
a).5 (AA.p a).6 (AA.p a).7 (AA.p a).8) x0) ∧ True) ∧ (((((PA.s1 (AA.p a)).1 = (PA.s1 (AA.p a)).1 ∧ (PA.s1 (AA.p a)).2 = (PA.s1 (AA.p a)).2 ∧ (PA.s1 (AA.p a)).3 = (PA.s1 (AA.p a)).3
∧ (PA.s1 (AA.p a)).4 = (PA.s1 (AA.p a)).4) ∧ ((PA.s2 (AA.p a)).1 = (PA.s2 (AA.p a)).1 ∧ (PA.s2 (AA.p a)).2 = (PA.s2 (AA.p a)).2 ∧ (PA.s2 (AA.p a)).3 = (PA.s2 (AA.p a)).3 ∧ (PA.s2
(AA.p a)).4 = (PA.s2 (AA.p a)).4) ∧ ((PA.s3 (AA.p a)).1 = (PA.s3 (AA.p a)).1 ∧ (PA.s3 (AA.p a)).2 = (PA.s3 (AA.p a)).2 ∧ (PA.s3 (AA.p a)).3 = (PA.s3 (AA.p a)).3 ∧ (PA.s3 (AA.p
a)).4 = (PA.s3 (AA.p a)).4) ∧ (AA.p a).4 = (AA.p a).4 ∧ (AA.p a).5 = (AA.p a).5 ∧ (AA.p a).6 = (AA.p a).6 ∧ (AA.p a).7 = (AA.p a).7 ∧ (AA.p a).8 = (AA.p a).8 ∧ True) ∧ True) ∧
(True ∧ FlatL (PA.s1 (AA.p a)).5 ∧ (PA.s1 (AA.p a)).5 = (PA.s1 (AA.p a)).5) ∧ (True ∧ FlatL (PA.s2 (AA.p a)).5 ∧ (PA.s2 (AA.p a)).5 = (PA.s2 (AA.p a)).5) ∧ (True ∧ FlatL (PA.s3
(AA.p a)).5 ∧ (PA.s3 (AA.p a)).5 = (PA.s3 (AA.p a)).5) ∧ True) ∧ (∀ (x1 : Unit), True → (True ∧ (∃ (x2 : PX), PH (PA.mk (SA.mk (PA.s1 (AA.p a)).1 (PA.s1 (AA.p a)).2 (Min.min (PA.s1
(AA.p a)).3 (70 : Nat)) (PA.s1 (AA.p a)).4 (PA.s1 (AA.p a)).5) (SA.mk (PA.s2 (AA.p a)).1 (PA.s2 (AA.p a)).2 (Min.min (PA.s2 (AA.p a)).3 (10 : Nat)) (PA.s2 (AA.p a)).4 (PA.s2 (AA.p
a)).5) (SA.mk (PA.s3 (AA.p a)).1 (PA.s3 (AA.p a)).2 (Min.min (PA.s3 (AA.p a)).3 (10 : Nat)) (PA.s3 (AA.p a)).4 (PA.s3 (AA.p a)).5) (AA.p a).4 (AA.p a).5 (AA.p a).6 (AA.p a).7 (AA.p
a).8) x2) ∧ Min.min (PA.s1 (AA.p a)).3 (70 : Nat) ≤ (100 : Nat) ∧ Min.min (PA.s2 (AA.p a)).3 (10 : Nat) ≤ (100 : Nat) ∧ Min.min (PA.s3 (AA.p a)).3 (10 : Nat) ≤ (100 : Nat)) ∧
(((((PA.s1 (AA.p a)).1 = (PA.s1 (AA.p a)).1 ∧ (PA.s1 (AA.p a)).2 = (PA.s1 (AA.p a)).2 ∧ Min.min (PA.s1 (AA.p a)).3 (70 : Nat) = Min.min (PA.s1 (AA.p a)).3 (70 : Nat) ∧ (PA.s1 (AA.p
a)).4 = (PA.s1 (AA.p a)).4) ∧ ((PA.s2 (AA.p a)).1 = (PA.s2 (AA.p a)).1 ∧ (PA.s2 (AA.p a)).2 = (PA.s2 (AA.p a)).2 ∧ Min.min (PA.s2 (AA.p a)).3 (10 : Nat) = Min.min (PA.s2 (AA.p
a)).3 (10 : Nat) ∧ (PA.s2 (AA.p a)).4 = (PA.s2 (AA.p a)).4) ∧ ((PA.s3 (AA.p a)).1 = (PA.s3 (AA.p a)).1 ∧ (PA.s3 (AA.p a)).2 = (PA.s3 (AA.p a)).2 ∧ Min.min (PA.s3 (AA.p a)).3 (10 :
Nat) = Min.min (PA.s3 (AA.p a)).3 (10 : Nat) ∧ (PA.s3 (AA.p a)).4 = (PA.s3 (AA.p a)).4) ∧ (AA.p a).4 = (AA.p a).4 ∧ (AA.p a).5 = (AA.p a).5 ∧ (AA.p a).6 = (AA.p a).6 ∧ (AA.p a).7 =
(AA.p a).7 ∧ (AA.p a).8 = (AA.p a).8 ∧ True) ∧ True) ∧ (True ∧ FlatL (PA.s1 (AA.p a)).5 ∧ (PA.s1 (AA.p a)).5 = (PA.s1 (AA.p a)).5) ∧ (True ∧ FlatL (PA.s2 (AA.p a)).5 ∧ (PA.s2 (AA.p
a)).5 = (PA.s2 (AA.p a)).5) ∧ (True ∧ FlatL (PA.s3 (AA.p a)).5 ∧ (PA.s3 (AA.p a)).5 = (PA.s3 (AA.p a)).5) ∧ True) ∧ (∀ (x3 : PB), (∀ (x4 : PX), PH (PA.mk (SA.mk (PA.s1 (AA.p a)).1
(PA.s1 (AA.p a)).2 (Min.min (PA.s1 (AA.p a)).3 (70 : Nat)) (PA.s1 (AA.p a)).4 (PA.s1 (AA.p a)).5) (SA.mk (PA.s2 (AA.p a)).1 (PA.s2 (AA.p a)).2 (Min.min (PA.s2 (AA.p a)).3 (10 :
Nat)) (PA.s2 (AA.p a)).4 (PA.s2 (AA.p a)).5) (SA.mk (PA.s3 (AA.p a)).1 (PA.s3 (AA.p a)).2 (Min.min (PA.s3 (AA.p a)).3 (10 : Nat)) (PA.s3 (AA.p a)).4 (PA.s3 (AA.p a)).5) (AA.p a).4
(AA.p a).5 (AA.p a).6 (AA.p a).7 (AA.p a).8) x4 → PH (PA.mk (SA.mk (PA.s1 (AA.p a)).1 (0 : Nat) (Min.min (PA.s1 (AA.p a)).3 (70 : Nat)) (PB.b1 x3).1 (PB.b1 x3).2) (SA.mk (PA.s2
(AA.p a)).1 (0 : Nat) (Min.min (PA.s2 (AA.p a)).3 (10 : Nat)) (PB.b2 x3).1 (PB.b2 x3).2) (SA.mk (PA.s3 (AA.p a)).1 (0 : Nat) (Min.min (PA.s3 (AA.p a)).3 (10 : Nat)) (PB.b3 x3).1
(PB.b3 x3).2) (AA.p a).4 (AA.p a).5 (AA.p a).6 (AA.p a).7 (AA.p a).8) x4) → (True ∧ (∃ (x5 : PX), PH (PA.mk (SA.mk (PA.s1 (AA.p a)).1 (nat_lit 0) (Min.min (PA.s1 (AA.p a)).3 (70 :
Nat)) (PB.b1 x3).1 (PB.b1 x3).2) (SA.mk (PA.s2 (AA.p a)).1 (nat_lit 0) (Min.min (PA.s2 (AA.p a)).3 (10 : Nat)) (PB.b2 x3).1 (PB.b2 x3).2) (SA.mk (PA.s3 (AA.p a)).1 (nat_lit 0)
(Min.min (PA.s3 (AA.p a)).3 (10 : Nat)) (PB.b3 x3).1 (PB.b3 x3).2) (AA.p a).4 (AA.p a).5 (AA.p a).6 (AA.p a).7 (AA.p a).8) x5) ∧ Min.min (PA.s3 (AA.p a)).3 (10 : Nat) ≤ (100 :
Nat)) ∧ (((((PA.s1 (AA.p a)).1 = (PA.s1 (AA.p a)).1 ∧ nat_lit 0 = (0 : Nat) ∧ Min.min (PA.s1 (AA.p a)).3 (70 : Nat) = Min.min (PA.s1 (AA.p a)).3 (70 : Nat) ∧ (PB.b1 x3).1 = (PB.b1
x3).1) ∧ ((PA.s2 (AA.p a)).1 = (PA.s2 (AA.p a)).1 ∧ nat_lit 0 = (0 : Nat) ∧ Min.min (PA.s2 (AA.p a)).3 (10 : Nat) = Min.min (PA.s2 (AA.p a)).3 (10 : Nat) ∧ (PB.b2 x3).1 = (PB.b2
x3).1) ∧ ((PA.s3 (AA.p a)).1 = (PA.s3 (AA.p a)).1 ∧ nat_lit 0 = (0 : Nat) ∧ Min.min (PA.s3 (AA.p a)).3 (10 : Nat) = Min.min (PA.s3 (AA.p a)).3 (10 : Nat) ∧ (PB.b3 x3).1 = (PB.b3
x3).1) ∧ (AA.p a).4 = (AA.p a).4 ∧ (AA.p a).5 = (AA.p a).5 ∧ (AA.p a).6 = (AA.p a).6 ∧ (AA.p a).7 = (AA.p a).7 ∧ (AA.p a).8 = (AA.p a).8 ∧ True) ∧ True) ∧ (True ∧ FlatL (PB.b1
x3).2 ∧ (PB.b1 x3).2 = (PB.b1 x3).2) ∧ (True ∧ FlatL (PB.b2 x3).2 ∧ (PB.b2 x3).2 = (PB.b2 x3).2) ∧ (True ∧ FlatL (PB.b3 x3).2 ∧ (PB.b3 x3).2 = (PB.b3 x3).2) ∧ True) ∧ (∀ (x6 : RN),
(∀ (x7 : List Int), Sli (Value.int IntKind.u8) (8 : Nat) (PA.s3 (AA.p a)).1 (nat_lit 0) (Min.min (PA.s3 (AA.p a)).3 (10 : Nat)) (PB.b3 x3).1 (PB.b3 x3).2 x7 → Sli (Value.int
IntKind.u8) (8 : Nat) x6.1 (0 : Nat) (Min.min (PA.s3 (AA.p a)).3 (10 : Nat)) x6.2 x6.3 x7) → ((PA.s1 (AA.p a)).1 = Bool.true → ((0 : Nat) ≤ (0 : Nat) → Bool.true = Bool.true ∧
Bool.true = Bool.true ∧ (0 : Nat) ≤ (0 : Nat) ∧ ∀ (x8 : Nat) (x9 : List Value), x8 = (0 : Nat) → x9 = lput [] (0 : Nat) [] → (True ∧ (∃ (x10 : PX), PH (PA.mk (SA.mk Bool.false
(nat_lit 0) x8 (nat_lit 0) x9) (SA.mk (PA.s2 (AA.p a)).1 (nat_lit 0) (Min.min (PA.s2 (AA.p a)).3 (10 : Nat)) (PB.b2 x3).1 (PB.b2 x3).2) (SA.mk (PA.s3 (AA.p a)).1 (nat_lit 0)
(Min.min (PA.s3 (AA.p a)).3 (10 : Nat)) (PB.b3 x3).1 (PB.b3 x3).2) (AA.p a).4 (AA.p a).5 (AA.p a).6 (AA.p a).7 (AA.p a).8) x10) ∧ x8 ≤ (100 : Nat) ∧ Min.min (PA.s2 (AA.p a)).3 (10
: Nat) ≤ (100 : Nat) ∧ Min.min (PA.s3 (AA.p a)).3 (10 : Nat) ≤ (100 : Nat)) ∧ ((((Bool.false = Bool.false ∧ nat_lit 0 = (0 : Nat) ∧ x8 = x8 ∧ nat_lit 0 = (0 : Nat)) ∧ ((PA.s2 (AA.p
a)).1 = (PA.s2 (AA.p a)).1 ∧ nat_lit 0 = (0 : Nat) ∧ Min.min (PA.s2 (AA.p a)).3 (10 : Nat) = Min.min (PA.s2 (AA.p a)).3 (10 : Nat) ∧ (PB.b2 x3).1 = (PB.b2 x3).1) ∧ ((PA.s3 (AA.p
a)).1 = (PA.s3 (AA.p a)).1 ∧ nat_lit 0 = (0 : Nat) ∧ Min.min (PA.s3 (AA.p a)).3 (10 : Nat) = Min.min (PA.s3 (AA.p a)).3 (10 : Nat) ∧ (PB.b3 x3).1 = (PB.b3 x3).1) ∧ (AA.p a).4 =
(AA.p a).4 ∧ (AA.p a).5 = (AA.p a).5 ∧ (AA.p a).6 = (AA.p a).6 ∧ (AA.p a).7 = (AA.p a).7 ∧ (AA.p a).8 = (AA.p a).8 ∧ True) ∧ True) ∧ (True ∧ FlatL x9 ∧ x9 = x9) ∧ (True ∧ FlatL
(PB.b2 x3).2 ∧ (PB.b2 x3).2 = (PB.b2 x3).2) ∧ (True ∧ FlatL (PB.b3 x3).2 ∧ (PB.b3 x3).2 = (PB.b3 x3).2) ∧ True) ∧ (∀ (x11 : PB), (∀ (x12 : PX), PH (PA.mk (SA.mk Bool.false (nat_lit
0) x8 (nat_lit 0) x9) (SA.mk (PA.s2 (AA.p a)).1 (nat_lit 0) (Min.min (PA.s2 (AA.p a)).3 (10 : Nat)) (PB.b2 x3).1 (PB.b2 x3).2) (SA.mk (PA.s3 (AA.p a)).1 (nat_lit 0) (Min.min (PA.s3
(AA.p a)).3 (10 : Nat)) (PB.b3 x3).1 (PB.b3 x3).2) (AA.p a).4 (AA.p a).5 (AA.p a).6 (AA.p a).7 (AA.p a).8) x12 → PH (PA.mk (SA.mk Bool.false (0 : Nat) x8 (PB.b1 x11).1 (PB.b1
x11).2) (SA.mk (PA.s2 (AA.p a)).1 (0 : Nat) (Min.min (PA.s2 (AA.p a)).3 (10 : Nat)) (PB.b2 x11).1 (PB.b2 x11).2) (SA.mk (PA.s3 (AA.p a)).1 (0 : Nat) (Min.min (PA.s3 (AA.p a)).3 (10
: Nat)) (PB.b3 x11).1 (PB.b3 x11).2) (AA.p a).4 (AA.p a).5 (AA.p a).6 (AA.p a).7 (AA.p a).8) x12) → (True ∧ (∃ (x13 : PX), PH (PA.mk (SA.mk Bool.false (nat_lit 0) x8 (PB.b1 x11).1
(PB.b1 x11).2) (SA.mk (PA.s2 (AA.p a)).1 (nat_lit 0) (Min.min (PA.s2 (AA.p a)).3 (10 : Nat)) (PB.b2 x11).1 (PB.b2 x11).2) (SA.mk (PA.s3 (AA.p a)).1 (nat_lit 0) (Min.min (PA.s3
(AA.p a)).3 (10 : Nat)) (PB.b3 x11).1 (PB.b3 x11).2) (AA.p a).4 (AA.p a).5 (AA.p a).6 (AA.p a).7 (AA.p a).8) x13) ∧ Min.min (PA.s3 (AA.p a)).3 (10 : Nat) ≤ (100 : Nat)) ∧
((((Bool.false = Bool.false ∧ nat_lit 0 = (0 : Nat) ∧ x8 = x8 ∧ (PB.b1 x11).1 = (PB.b1 x11).1) ∧ ((PA.s2 (AA.p a)).1 = (PA.s2 (AA.p a)).1 ∧ nat_lit 0 = (0 : Nat) ∧ Min.min (PA.s2
(AA.p a)).3 (10 : Nat) = Min.min (PA.s2 (AA.p a)).3 (10 : Nat) ∧ (PB.b2 x11).1 = (PB.b2 x11).1) ∧ ((PA.s3 (AA.p a)).1 = (PA.s3 (AA.p a)).1 ∧ nat_lit 0 = (0 : Nat) ∧ Min.min (PA.s3
(AA.p a)).3 (10 : Nat) = Min.min (PA.s3 (AA.p a)).3 (10 : Nat) ∧ (PB.b3 x11).1 = (PB.b3 x11).1) ∧ (AA.p a).4 = (AA.p a).4 ∧ (AA.p a).5 = (AA.p a).5 ∧ (AA.p a).6 = (AA.p a).6 ∧
(AA.p a).7 = (AA.p a).7 ∧ (AA.p a).8 = (AA.p a).8 ∧ True) ∧ True) ∧ (True ∧ FlatL (PB.b1 x11).2 ∧ (PB.b1 x11).2 = (PB.b1 x11).2) ∧ (True ∧ FlatL (PB.b2 x11).2 ∧ (PB.b2 x11).2 =
(PB.b2 x11).2) ∧ (True ∧ FlatL (PB.b3 x11).2 ∧ (PB.b3 x11).2 = (PB.b3 x11).2) ∧ True) ∧ (∀ (x14 : RN), (∀ (x15 : List Int), Sli (Value.int IntKind.u8) (8 : Nat) (PA.s3 (AA.p a)).1
(nat_lit 0) (Min.min (PA.s3 (AA.p a)).3 (10 : Nat)) (PB.b3 x11).1 (PB.b3 x11).2 x15 → Sli (Value.int IntKind.u8) (8 : Nat) x14.1 (0 : Nat) (Min.min (PA.s3 (AA.p a)).3 (10 : Nat))
x14.2 x14.3 x15) → ∀ (x16 : Int), x16 = IntKind.wrap IntKind.i64 a.1 → (True ∧ (∃ (x17 : PX), PH (PA.mk (SA.mk Bool.false (nat_lit 0) x8 (nat_lit 0) x9) (SA.mk (PA.s2 (AA.p a)).1
(nat_lit 0) (Min.min (PA.s2 (AA.p a)).3 (10 : Nat)) (PB.b2 x3).1 (PB.b2 x3).2) (SA.mk (PA.s3 (AA.p a)).1 (nat_lit 0) (Min.min (PA.s3 (AA.p a)).3 (10 : Nat)) (PB.b3 x3).1 (PB.b3
x3).2) (AA.p a).4 (AA.p a).5 (AA.p a).6 (AA.p a).7 (AA.p a).8) x17) ∧ wthn x16 (Int.ofNat (3 : Nat)) (Int.ofNat (4 : Nat)) = (0 : Int) ∧ x8 ≤ (100 : Nat) ∧ Min.min (PA.s2 (AA.p
a)).3 (10 : Nat) ≤ (100 : Nat) ∧ Min.min (PA.s3 (AA.p a)).3 (10 : Nat) ≤ (100 : Nat)) ∧ ((x16 = x16 ∧ ((Bool.false = Bool.false ∧ nat_lit 0 = (0 : Nat) ∧ x8 = x8 ∧ nat_lit 0 = (0 :
Nat)) ∧ ((PA.s2 (AA.p a)).1 = (PA.s2 (AA.p a)).1 ∧ nat_lit 0 = (0 : Nat) ∧ Min.min (PA.s2 (AA.p a)).3 (10 : Nat) = Min.min (PA.s2 (AA.p a)).3 (10 : Nat) ∧ (PB.b2 x3).1 = (PB.b2
x3).1) ∧ ((PA.s3 (AA.p a)).1 = (PA.s3 (AA.p a)).1 ∧ nat_lit 0 = (0 : Nat) ∧ Min.min (PA.s3 (AA.p a)).3 (10 : Nat) = Min.min (PA.s3 (AA.p a)).3 (10 : Nat) ∧ (PB.b3 x3).1 = (PB.b3
x3).1) ∧ (AA.p a).4 = (AA.p a).4 ∧ (AA.p a).5 = (AA.p a).5 ∧ (AA.p a).6 = (AA.p a).6 ∧ (AA.p a).7 = (AA.p a).7 ∧ (AA.p a).8 = (AA.p a).8 ∧ True) ∧ Int.ofNat (3 : Nat) = (3 : Int) ∧
Int.ofNat (4 : Nat) = (4 : Int) ∧ True) ∧ (True ∧ FlatL x9 ∧ x9 = x9) ∧ (True ∧ FlatL (PB.b2 x3).2 ∧ (PB.b2 x3).2 = (PB.b2 x3).2) ∧ (True ∧ FlatL (PB.b3 x3).2 ∧ (PB.b3 x3).2 =
(PB.b3 x3).2) ∧ True) ∧ (∀ (x18 : PB), (∀ (x19 : PX), PH (PA.mk (SA.mk Bool.false (nat_lit 0) x8 (nat_lit 0) x9) (SA.mk (PA.s2 (AA.p a)).1 (nat_lit 0) (Min.min (PA.s2 (AA.p a)).3
(10 : Nat)) (PB.b2 x3).1 (PB.b2 x3).2) (SA.mk (PA.s3 (AA.p a)).1 (nat_lit 0) (Min.min (PA.s3 (AA.p a)).3 (10 : Nat)) (PB.b3 x3).1 (PB.b3 x3).2) (AA.p a).4 (AA.p a).5 (AA.p a).6
(AA.p a).7 (AA.p a).8) x19 → PH (PA.mk (SA.mk Bool.false (0 : Nat) x8 (PB.b1 x18).1 (PB.b1 x18).2) (SA.mk (PA.s2 (AA.p a)).1 (0 : Nat) (Min.min (PA.s2 (AA.p a)).3 (10 : Nat))
(PB.b2 x18).1 (PB.b2 x18).2) (SA.mk (PA.s3 (AA.p a)).1 (0 : Nat) (Min.min (PA.s3 (AA.p a)).3 (10 : Nat)) (PB.b3 x18).1 (PB.b3 x18).2) (AA.p a).4 (AA.p a).5 (AA.p a).6 (AA.p a).7
(AA.p a).8) x19) → ∃ (x20 : LL), (((0 : Int) ≤ x20.1 ∧ x20.1 ≤ ↑x20.3) ∧ (x20.3 ≤ (70 : Nat) ∧ x20.3 ≤ x20.4) ∧ Ir x20.5 x20.3 ∧ Twin x20.7 x20.6) ∧ ((a.1 = a.1 ∧ (0 : Nat) = (0 :
Nat) ∧ (0 : Nat) = (0 : Nat) ∧ (0 : Nat) = (0 : Nat) ∧ x20.1 = (0 : Int) ∧ True) ∧ ((True ∧ ((0 : Nat) = (0 : Nat) ∧ x20.3 = x8 ∧ x20.4 = (0 : Nat)) ∧ True ∧ True ∧ True ∧ True ∧
True ∧ True ∧ True ∧ True) ∧ ((x20.4 = (0 : Nat) ∧ x9 = []) ∧ FlatL x20.5 ∧ x20.5 = x9) ∧ (True ∧ ((PA.s1 (LL.w x20)).1 = Bool.false ∧ (PA.s1 (LL.w x20)).2 = nat_lit 0 ∧ (PA.s1
(LL.w x20)).3 = x8 ∧ (PA.s1 (LL.w x20)).4 = (PB.b1 x11).1) ∧ ((PA.s2 (LL.w x20)).1 = (PA.s2 (AA.p a)).1 ∧ (PA.s2 (LL.w x20)).2 = nat_lit 0 ∧ (PA.s2 (LL.w x20)).3 = Min.min (PA.s2
(AA.p a)).3 (10 : Nat) ∧ (PA.s2 (LL.w x20)).4 = (PB.b2 x11).1) ∧ ((PA.s3 (LL.w x20)).1 = x14.1 ∧ (PA.s3 (LL.w x20)).2 = (0 : Nat) ∧ (PA.s3 (LL.w x20)).3 = Min.min (PA.s3 (AA.p
a)).3 (10 : Nat) ∧ (PA.s3 (LL.w x20)).4 = x14.2) ∧ (LL.w x20).4 = (AA.p a).4 ∧ (LL.w x20).5 = (AA.p a).5 ∧ (LL.w x20).6 = (AA.p a).6 ∧ (LL.w x20).7 = (AA.p a).7 ∧ (LL.w x20).8 =
(AA.p a).8 ∧ True) ∧ (True ∧ a.1 = x16 ∧ a.1 = x16 ∧ ((PA.s1 (LL.q x20)).1 = Bool.false ∧ (PA.s1 (LL.q x20)).2 = (0 : Nat) ∧ (PA.s1 (LL.q x20)).3 = x8 ∧ (PA.s1 (LL.q x20)).4 =
(PB.b1 x18).1) ∧ ((PA.s2 (LL.q x20)).1 = (PA.s2 (AA.p a)).1 ∧ (PA.s2 (LL.q x20)).2 = (0 : Nat) ∧ (PA.s2 (LL.q x20)).3 = Min.min (PA.s2 (AA.p a)).3 (10 : Nat) ∧ (PA.s2 (LL.q x20)).4
= (PB.b2 x18).1) ∧ ((PA.s3 (LL.q x20)).1 = (PA.s3 (AA.p a)).1 ∧ (PA.s3 (LL.q x20)).2 = (0 : Nat) ∧ (PA.s3 (LL.q x20)).3 = Min.min (PA.s3 (AA.p a)).3 (10 : Nat) ∧ (PA.s3 (LL.q
x20)).4 = (PB.b3 x18).1) ∧ (LL.q x20).4 = (AA.p a).4 ∧ (LL.q x20).5 = (AA.p a).5 ∧ (LL.q x20).6 = (AA.p a).6 ∧ (LL.q x20).7 = (AA.p a).7 ∧ (LL.q x20).8 = (AA.p a).8 ∧ x20.8 =
Int.ofNat (3 : Nat) + Int.ofNat (4 : Nat) ∧ True) ∧ (True ∧ FlatL (PA.s1 (LL.w x20)).5 ∧ (PA.s1 (LL.w x20)).5 = (PB.b1 x11).2) ∧ (True ∧ FlatL (PA.s2 (LL.w x20)).5 ∧ (PA.s2 (LL.w
x20)).5 = (PB.b2 x11).2) ∧ (True ∧ FlatL (PA.s3 (LL.w x20)).5 ∧ (PA.s3 (LL.w x20)).5 = x14.3) ∧ (True ∧ FlatL (PA.s1 (LL.q x20)).5 ∧ (PA.s1 (LL.q x20)).5 = (PB.b1 x18).2) ∧ (True ∧
FlatL (PA.s2 (LL.q x20)).5 ∧ (PA.s2 (LL.q x20)).5 = (PB.b2 x18).2) ∧ (True ∧ FlatL (PA.s3 (LL.q x20)).5 ∧ (PA.s3 (LL.q x20)).5 = (PB.b3 x18).2) ∧ (True ∧ FlatL cells0 ∧ cells0 =
cells0) ∧ (True ∧ FlatL cells1 ∧ cells1 = cells1) ∧ (True ∧ FlatL cells2 ∧ cells2 = cells2) ∧ (True ∧ FlatL cells4 ∧ cells4 = cells4) ∧ (True ∧ FlatL cells5 ∧ cells5 = cells5) ∧
(True ∧ FlatL cells6 ∧ cells6 = cells6) ∧ (True ∧ FlatL cells8 ∧ cells8 = cells8) ∧ (True ∧ FlatL cells9 ∧ cells9 = cells9) ∧ (True ∧ FlatL cells10 ∧ cells10 = cells10) ∧ True) ∧
True) ∧ ∀ (x21 : LL), ((0 : Int) ≤ x21.1 ∧ x21.1 ≤ ↑x21.3) ∧ (x21.3 ≤ (70 : Nat) ∧ x21.3 ≤ x21.4) ∧ Ir x21.5 x21.3 ∧ Twin x21.7 x21.6 → ∀ (x22 : Int), x22 = ↑x21.3 → (x21.1 < x22 →
((0 : Int) ≤ x21.1 ∧ x21.1 < ↑x21.3) ∧ ∀ (x23 : Nat), x23 = (0 : Nat) + Int.toNat x21.1 * (1 : Nat) → ∃ (x24 : Int), Rd x21.5 (Nat.add x23 (0 : Nat)) (Value.int IntKind.i32 x24) ∧
∀ (x25 : Int), x25 = IntKind.wrap IntKind.i32 (x24 + (1 : Int)) → ((0 : Int) ≤ x21.1 ∧ x21.1 < ↑x21.3) ∧ ∀ (x26 : Nat), x26 = (0 : Nat) + Int.toNat x21.1 * (1 : Nat) → x26 + (1 :
Nat) ≤ List.length x21.5 ∧ ∀ (x27 : List Value), x27 = lput x21.5 x26 [Value.iface (1000000007 : Nat) (Value.int IntKind.i32 x25)] → ∀ (x28 : Int), x28 = IntKind.wrap IntKind.i64
(x21.1 + (1 : Int)) → ∃ (x29 : LL), (((0 : Int) ≤ x29.1 ∧ x29.1 ≤ ↑x29.3) ∧ (x29.3 ≤ (70 : Nat) ∧ x29.3 ≤ x29.4) ∧ Ir x29.5 x29.3 ∧ Twin x29.7 x29.6) ∧ Int.toNat (↑x29.3 - x29.1) <
Int.toNat (↑x21.3 - x21.1) ∧ (a.1 = a.1 ∧ (0 : Nat) = (0 : Nat) ∧ (0 : Nat) = (0 : Nat) ∧ (0 : Nat) = (0 : Nat) ∧ x29.1 = x28 ∧ True) ∧ ((True ∧ ((0 : Nat) = (0 : Nat) ∧ x29.3 =
x21.3 ∧ x29.4 = x21.4) ∧ True ∧ True ∧ True ∧ True ∧ True ∧ True ∧ True ∧ True) ∧ (x29.4 = x21.4 ∧ FlatL x29.5 ∧ x29.5 = x27) ∧ (True ∧ ((PA.s1 (LL.w x29)).1 = (PA.s1 (LL.w x21)).1
∧ (PA.s1 (LL.w x29)).2 = (PA.s1 (LL.w x21)).2 ∧ (PA.s1 (LL.w x29)).3 = (PA.s1 (LL.w x21)).3 ∧ (PA.s1 (LL.w x29)).4 = (PA.s1 (LL.w x21)).4) ∧ ((PA.s2 (LL.w x29)).1 = (PA.s2 (LL.w
x21)).1 ∧ (PA.s2 (LL.w x29)).2 = (PA.s2 (LL.w x21)).2 ∧ (PA.s2 (LL.w x29)).3 = (PA.s2 (LL.w x21)).3 ∧ (PA.s2 (LL.w x29)).4 = (PA.s2 (LL.w x21)).4) ∧ ((PA.s3 (LL.w x29)).1 = (PA.s3
(LL.w x21)).1 ∧ (PA.s3 (LL.w x29)).2 = (PA.s3 (LL.w x21)).2 ∧ (PA.s3 (LL.w x29)).3 = (PA.s3 (LL.w x21)).3 ∧ (PA.s3 (LL.w x29)).4 = (PA.s3 (LL.w x21)).4) ∧ (LL.w x29).4 = (LL.w
x21).4 ∧ (LL.w x29).5 = (LL.w x21).5 ∧ (LL.w x29).6 = (LL.w x21).6 ∧ (LL.w x29).7 = (LL.w x21).7 ∧ (LL.w x29).8 = (LL.w x21).8 ∧ True) ∧ (True ∧ a.1 = a.1 ∧ a.1 = a.1 ∧ ((PA.s1
(LL.q x29)).1 = (PA.s1 (LL.q x21)).1 ∧ (PA.s1 (LL.q x29)).2 = (PA.s1 (LL.q x21)).2 ∧ (PA.s1 (LL.q x29)).3 = (PA.s1 (LL.q x21)).3 ∧ (PA.s1 (LL.q x29)).4 = (PA.s1 (LL.q x21)).4) ∧
((PA.s2 (LL.q x29)).1 = (PA.s2 (LL.q x21)).1 ∧ (PA.s2 (LL.q x29)).2 = (PA.s2 (LL.q x21)).2 ∧ (PA.s2 (LL.q x29)).3 = (PA.s2 (LL.q x21)).3 ∧ (PA.s2 (LL.q x29)).4 = (PA.s2 (LL.q
x21)).4) ∧ ((PA.s3 (LL.q x29)).1 = (PA.s3 (LL.q x21)).1 ∧ (PA.s3 (LL.q x29)).2 = (PA.s3 (LL.q x21)).2 ∧ (PA.s3 (LL.q x29)).3 = (PA.s3 (LL.q x21)).3 ∧ (PA.s3 (LL.q x29)).4 = (PA.s3
(LL.q x21)).4) ∧ (LL.q x29).4 = (LL.q x21).4 ∧ (LL.q x29).5 = (LL.q x21).5 ∧ (LL.q x29).6 = (LL.q x21).6 ∧ (LL.q x29).7 = (LL.q x21).7 ∧ (LL.q x29).8 = (LL.q x21).8 ∧ x29.8 = x21.8
∧ True) ∧ (True ∧ FlatL (PA.s1 (LL.w x29)).5 ∧ (PA.s1 (LL.w x29)).5 = (PA.s1 (LL.w x21)).5) ∧ (True ∧ FlatL (PA.s2 (LL.w x29)).5 ∧ (PA.s2 (LL.w x29)).5 = (PA.s2 (LL.w x21)).5) ∧
(True ∧ FlatL (PA.s3 (LL.w x29)).5 ∧ (PA.s3 (LL.w x29)).5 = (PA.s3 (LL.w x21)).5) ∧ (True ∧ FlatL (PA.s1 (LL.q x29)).5 ∧ (PA.s1 (LL.q x29)).5 = (PA.s1 (LL.q x21)).5) ∧ (True ∧
FlatL (PA.s2 (LL.q x29)).5 ∧ (PA.s2 (LL.q x29)).5 = (PA.s2 (LL.q x21)).5) ∧ (True ∧ FlatL (PA.s3 (LL.q x29)).5 ∧ (PA.s3 (LL.q x29)).5 = (PA.s3 (LL.q x21)).5) ∧ (True ∧ FlatL cells0
∧ cells0 = cells0) ∧ (True ∧ FlatL cells1 ∧ cells1 = cells1) ∧ (True ∧ FlatL cells2 ∧ cells2 = cells2) ∧ (True ∧ FlatL cells4 ∧ cells4 = cells4) ∧ (True ∧ FlatL cells5 ∧ cells5 =
cells5) ∧ (True ∧ FlatL cells6 ∧ cells6 = cells6) ∧ (True ∧ FlatL cells8 ∧ cells8 = cells8) ∧ (True ∧ FlatL cells9 ∧ cells9 = cells9) ∧ (True ∧ FlatL cells10 ∧ cells10 = cells10) ∧
True) ∧ True) ∧ (¬x21.1 < x22 → (True ∧ (∃ (x30 : PX), PH (PA.mk (SA.mk (PA.s1 (LL.q x21)).1 (PA.s1 (LL.q x21)).2 (PA.s1 (LL.q x21)).3 (PA.s1 (LL.q x21)).4 (PA.s1 (LL.q x21)).5)
(SA.mk (PA.s2 (LL.q x21)).1 (PA.s2 (LL.q x21)).2 (PA.s2 (LL.q x21)).3 (PA.s2 (LL.q x21)).4 (PA.s2 (LL.q x21)).5) (SA.mk (PA.s3 (LL.q x21)).1 (PA.s3 (LL.q x21)).2 (PA.s3 (LL.q
x21)).3 (PA.s3 (LL.q x21)).4 (PA.s3 (LL.q x21)).5) (LL.q x21).4 (LL.q x21).5 (LL.q x21).6 (LL.q x21).7 (LL.q x21).8) x30) ∧ (PA.s3 (LL.q x21)).3 ≤ (100 : Nat)) ∧ (((((PA.s1 (LL.q
x21)).1 = (PA.s1 (LL.q x21)).1 ∧ (PA.s1 (LL.q x21)).2 = (PA.s1 (LL.q x21)).2 ∧ (PA.s1 (LL.q x21)).3 = (PA.s1 (LL.q x21)).3 ∧ (PA.s1 (LL.q x21)).4 = (PA.s1 (LL.q x21)).4) ∧ ((PA.s2
(LL.q x21)).1 = (PA.s2 (LL.q x21)).1 ∧ (PA.s2 (LL.q x21)).2 = (PA.s2 (LL.q x21)).2 ∧ (PA.s2 (LL.q x21)).3 = (PA.s2 (LL.q x21)).3 ∧ (PA.s2 (LL.q x21)).4 = (PA.s2 (LL.q x21)).4) ∧
((PA.s3 (LL.q x21)).1 = (PA.s3 (LL.q x21)).1 ∧ (PA.s3 (LL.q x21)).2 = (PA.s3 (LL.q x21)).2 ∧ (PA.s3 (LL.q x21)).3 = (PA.s3 (LL.q x21)).3 ∧ (PA.s3 (LL.q x21)).4 = (PA.s3 (LL.q
x21)).4) ∧ (LL.q x21).4 = (LL.q x21).4 ∧ (LL.q x21).5 = (LL.q x21).5 ∧ (LL.q x21).6 = (LL.q x21).6 ∧ (LL.q x21).7 = (LL.q x21).7 ∧ (LL.q x21).8 = (LL.q x21).8 ∧ True) ∧ True) ∧
(True ∧ FlatL (PA.s1 (LL.q x21)).5 ∧ (PA.s1 (LL.q x21)).5 = (PA.s1 (LL.q x21)).5) ∧ (True ∧ FlatL (PA.s2 (LL.q x21)).5 ∧ (PA.s2 (LL.q x21)).5 = (PA.s2 (LL.q x21)).5) ∧ (True ∧
FlatL (PA.s3 (LL.q x21)).5 ∧ (PA.s3 (LL.q x21)).5 = (PA.s3 (LL.q x21)).5) ∧ True) ∧ (∀ (x31 : RN), (∀ (x32 : List Int), Sli (Value.int IntKind.u8) (8 : Nat) (PA.s3 (LL.q x21)).1
(PA.s3 (LL.q x21)).2 (PA.s3 (LL.q x21)).3 (PA.s3 (LL.q x21)).4 (PA.s3 (LL.q x21)).5 x32 → Sli (Value.int IntKind.u8) (8 : Nat) x31.1 (0 : Nat) (PA.s3 (LL.q x21)).3 x31.2 x31.3 x32)
→ (True ∧ ((∃ (x33 : PX), PH (PA.mk (SA.mk (PA.s1 (LL.q x21)).1 (PA.s1 (LL.q x21)).2 (PA.s1 (LL.q x21)).3 (PA.s1 (LL.q x21)).4 (PA.s1 (LL.q x21)).5) (SA.mk (PA.s2 (LL.q x21)).1
(PA.s2 (LL.q x21)).2 (PA.s2 (LL.q x21)).3 (PA.s2 (LL.q x21)).4 (PA.s2 (LL.q x21)).5) (SA.mk x31.1 (nat_lit 0) (PA.s3 (LL.q x21)).3 x31.2 x31.3) (LL.q x21).4 (LL.q x21).5 (LL.q
x21).6 (LL.q x21).7 (LL.q x21).8) x33 ∧ PW (PA.mk (SA.mk (PA.s1 (LL.q x21)).1 (PA.s1 (LL.q x21)).2 (PA.s1 (LL.q x21)).3 (PA.s1 (LL.q x21)).4 (PA.s1 (LL.q x21)).5) (SA.mk (PA.s2
(LL.q x21)).1 (PA.s2 (LL.q x21)).2 (PA.s2 (LL.q x21)).3 (PA.s2 (LL.q x21)).4 (PA.s2 (LL.q x21)).5) (SA.mk x31.1 (nat_lit 0) (PA.s3 (LL.q x21)).3 x31.2 x31.3) (LL.q x21).4 (LL.q
x21).5 (LL.q x21).6 (LL.q x21).7 (LL.q x21).8) x33) ∧ ∃ (x34 : PX), PH (PA.mk (SA.mk (PA.s1 (LL.w x21)).1 (PA.s1 (LL.w x21)).2 (PA.s1 (LL.w x21)).3 (PA.s1 (LL.w x21)).4 (PA.s1
(LL.w x21)).5) (SA.mk (PA.s2 (LL.w x21)).1 (PA.s2 (LL.w x21)).2 (PA.s2 (LL.w x21)).3 (PA.s2 (LL.w x21)).4 (PA.s2 (LL.w x21)).5) (SA.mk (PA.s3 (LL.w x21)).1 (PA.s3 (LL.w x21)).2
(PA.s3 (LL.w x21)).3 (PA.s3 (LL.w x21)).4 (PA.s3 (LL.w x21)).5) (LL.w x21).4 (LL.w x21).5 (LL.w x21).6 (LL.w x21).7 (LL.w x21).8) x34 ∧ PW (PA.mk (SA.mk (PA.s1 (LL.w x21)).1 (PA.s1
(LL.w x21)).2 (PA.s1 (LL.w x21)).3 (PA.s1 (LL.w x21)).4 (PA.s1 (LL.w x21)).5) (SA.mk (PA.s2 (LL.w x21)).1 (PA.s2 (LL.w x21)).2 (PA.s2 (LL.w x21)).3 (PA.s2 (LL.w x21)).4 (PA.s2
(LL.w x21)).5) (SA.mk (PA.s3 (LL.w x21)).1 (PA.s3 (LL.w x21)).2 (PA.s3 (LL.w x21)).3 (PA.s3 (LL.w x21)).4 (PA.s3 (LL.w x21)).5) (LL.w x21).4 (LL.w x21).5 (LL.w x21).6 (LL.w x21).7
(LL.w x21).8) x34) ∧ ((PA.s1 (LL.q x21)).3 ≤ (70 : Nat) ∧ (PA.s2 (LL.q x21)).3 ≤ (10 : Nat) ∧ (PA.s3 (LL.q x21)).3 ≤ (10 : Nat)) ∧ (PA.s1 (LL.w x21)).3 ≤ (70 : Nat) ∧ (PA.s2 (LL.w
x21)).3 ≤ (10 : Nat) ∧ (PA.s3 (LL.w x21)).3 ≤ (10 : Nat)) ∧ (((((PA.s1 (LL.q x21)).1 = (PA.s1 (LL.q x21)).1 ∧ (PA.s1 (LL.q x21)).2 = (PA.s1 (LL.q x21)).2 ∧ (PA.s1 (LL.q x21)).3 =
(PA.s1 (LL.q x21)).3 ∧ (PA.s1 (LL.q x21)).4 = (PA.s1 (LL.q x21)).4) ∧ ((PA.s2 (LL.q x21)).1 = (PA.s2 (LL.q x21)).1 ∧ (PA.s2 (LL.q x21)).2 = (PA.s2 (LL.q x21)).2 ∧ (PA.s2 (LL.q
x21)).3 = (PA.s2 (LL.q x21)).3 ∧ (PA.s2 (LL.q x21)).4 = (PA.s2 (LL.q x21)).4) ∧ (x31.1 = x31.1 ∧ nat_lit 0 = (0 : Nat) ∧ (PA.s3 (LL.q x21)).3 = (PA.s3 (LL.q x21)).3 ∧ x31.2 =
x31.2) ∧ (LL.q x21).4 = (LL.q x21).4 ∧ (LL.q x21).5 = (LL.q x21).5 ∧ (LL.q x21).6 = (LL.q x21).6 ∧ (LL.q x21).7 = (LL.q x21).7 ∧ (LL.q x21).8 = (LL.q x21).8 ∧ True) ∧ (((PA.s1
(LL.w x21)).1 = (PA.s1 (LL.w x21)).1 ∧ (PA.s1 (LL.w x21)).2 = (PA.s1 (LL.w x21)).2 ∧ (PA.s1 (LL.w x21)).3 = (PA.s1 (LL.w x21)).3 ∧ (PA.s1 (LL.w x21)).4 = (PA.s1 (LL.w x21)).4) ∧
((PA.s2 (LL.w x21)).1 = (PA.s2 (LL.w x21)).1 ∧ (PA.s2 (LL.w x21)).2 = (PA.s2 (LL.w x21)).2 ∧ (PA.s2 (LL.w x21)).3 = (PA.s2 (LL.w x21)).3 ∧ (PA.s2 (LL.w x21)).4 = (PA.s2 (LL.w
x21)).4) ∧ ((PA.s3 (LL.w x21)).1 = (PA.s3 (LL.w x21)).1 ∧ (PA.s3 (LL.w x21)).2 = (PA.s3 (LL.w x21)).2 ∧ (PA.s3 (LL.w x21)).3 = (PA.s3 (LL.w x21)).3 ∧ (PA.s3 (LL.w x21)).4 = (PA.s3
(LL.w x21)).4) ∧ (LL.w x21).4 = (LL.w x21).4 ∧ (LL.w x21).5 = (LL.w x21).5 ∧ (LL.w x21).6 = (LL.w x21).6 ∧ (LL.w x21).7 = (LL.w x21).7 ∧ (LL.w x21).8 = (LL.w x21).8 ∧ True) ∧ True)
∧ (True ∧ FlatL (PA.s1 (LL.q x21)).5 ∧ (PA.s1 (LL.q x21)).5 = (PA.s1 (LL.q x21)).5) ∧ (True ∧ FlatL (PA.s2 (LL.q x21)).5 ∧ (PA.s2 (LL.q x21)).5 = (PA.s2 (LL.q x21)).5) ∧ (True ∧
FlatL x31.3 ∧ x31.3 = x31.3) ∧ (True ∧ FlatL (PA.s1 (LL.w x21)).5 ∧ (PA.s1 (LL.w x21)).5 = (PA.s1 (LL.w x21)).5) ∧ (True ∧ FlatL (PA.s2 (LL.w x21)).5 ∧ (PA.s2 (LL.w x21)).5 =
(PA.s2 (LL.w x21)).5) ∧ (True ∧ FlatL (PA.s3 (LL.w x21)).5 ∧ (PA.s3 (LL.w x21)).5 = (PA.s3 (LL.w x21)).5) ∧ True) ∧ (∀ (x35 : BL), (∀ (x36 x37 : PX), PH (PA.mk (SA.mk (PA.s1 (LL.q
x21)).1 (PA.s1 (LL.q x21)).2 (PA.s1 (LL.q x21)).3 (PA.s1 (LL.q x21)).4 (PA.s1 (LL.q x21)).5) (SA.mk (PA.s2 (LL.q x21)).1 (PA.s2 (LL.q x21)).2 (PA.s2 (LL.q x21)).3 (PA.s2 (LL.q
x21)).4 (PA.s2 (LL.q x21)).5) (SA.mk x31.1 (nat_lit 0) (PA.s3 (LL.q x21)).3 x31.2 x31.3) (LL.q x21).4 (LL.q x21).5 (LL.q x21).6 (LL.q x21).7 (LL.q x21).8) x36 → PH (PA.mk (SA.mk
(PA.s1 (LL.w x21)).1 (PA.s1 (LL.w x21)).2 (PA.s1 (LL.w x21)).3 (PA.s1 (LL.w x21)).4 (PA.s1 (LL.w x21)).5) (SA.mk (PA.s2 (LL.w x21)).1 (PA.s2 (LL.w x21)).2 (PA.s2 (LL.w x21)).3
(PA.s2 (LL.w x21)).4 (PA.s2 (LL.w x21)).5) (SA.mk (PA.s3 (LL.w x21)).1 (PA.s3 (LL.w x21)).2 (PA.s3 (LL.w x21)).3 (PA.s3 (LL.w x21)).4 (PA.s3 (LL.w x21)).5) (LL.w x21).4 (LL.w
x21).5 (LL.w x21).6 (LL.w x21).7 (LL.w x21).8) x37 → (x35.1 = Bool.true ↔ enc (PA.mk (SA.mk (PA.s1 (LL.q x21)).1 (PA.s1 (LL.q x21)).2 (PA.s1 (LL.q x21)).3 (PA.s1 (LL.q x21)).4
(PA.s1 (LL.q x21)).5) (SA.mk (PA.s2 (LL.q x21)).1 (PA.s2 (LL.q x21)).2 (PA.s2 (LL.q x21)).3 (PA.s2 (LL.q x21)).4 (PA.s2 (LL.q x21)).5) (SA.mk x31.1 (nat_lit 0) (PA.s3 (LL.q x21)).3
x31.2 x31.3) (LL.q x21).4 (LL.q x21).5 (LL.q x21).6 (LL.q x21).7 (LL.q x21).8) x36 = enc (PA.mk (SA.mk (PA.s1 (LL.w x21)).1 (PA.s1 (LL.w x21)).2 (PA.s1 (LL.w x21)).3 (PA.s1 (LL.w
x21)).4 (PA.s1 (LL.w x21)).5) (SA.mk (PA.s2 (LL.w x21)).1 (PA.s2 (LL.w x21)).2 (PA.s2 (LL.w x21)).3 (PA.s2 (LL.w x21)).4 (PA.s2 (LL.w x21)).5) (SA.mk (PA.s3 (LL.w x21)).1 (PA.s3
(LL.w x21)).2 (PA.s3 (LL.w x21)).3 (PA.s3 (LL.w x21)).4 (PA.s3 (LL.w x21)).5) (LL.w x21).4 (LL.w x21).5 (LL.w x21).6 (LL.w x21).7 (LL.w x21).8) x37)) → (x35.1 = Bool.true → (True ∧
True ∧ True ∧ (W_G_apart_0 x21 = W_G_apart_0 x21 ∧ True) ∧ True ∧ True ∧ True) ∧ ∀ (x38 : Int), x38 = IntKind.wrap IntKind.i64 a.1 → ∀ (x39 : Int), x39 = IntKind.wrap IntKind.i64
(x38 + (1 : Int)) → (True ∧ (∃ (x40 : PX), PH (PA.mk (SA.mk (PA.s1 (LL.q x21)).1 (PA.s1 (LL.q x21)).2 (PA.s1 (LL.q x21)).3 (PA.s1 (LL.q x21)).4 (PA.s1 (LL.q x21)).5) (SA.mk (PA.s2
(LL.q x21)).1 (PA.s2 (LL.q x21)).2 (PA.s2 (LL.q x21)).3 (PA.s2 (LL.q x21)).4 (PA.s2 (LL.q x21)).5) (SA.mk (PA.s3 (LL.q x21)).1 (PA.s3 (LL.q x21)).2 (PA.s3 (LL.q x21)).3 (PA.s3
(LL.q x21)).4 (PA.s3 (LL.q x21)).5) (LL.q x21).4 (LL.q x21).5 (LL.q x21).6 (LL.q x21).7 (LL.q x21).8) x40) ∧ (wthn x39 (Int.ofNat (3 : Nat)) (Int.ofNat (4 : Nat)) = (0 : Int) ∧ a.1
< x39) ∧ (PA.s1 (LL.q x21)).3 ≤ (100 : Nat) ∧ (PA.s2 (LL.q x21)).3 ≤ (100 : Nat) ∧ (PA.s3 (LL.q x21)).3 ≤ (100 : Nat)) ∧ (((a.1 = a.1 ∧ True ∧ True ∧ True ∧ True ∧ True ∧ True ∧
True ∧ True ∧ True ∧ True ∧ True) ∧ x39 = x39 ∧ (((PA.s1 (LL.q x21)).1 = (PA.s1 (LL.q x21)).1 ∧ (PA.s1 (LL.q x21)).2 = (PA.s1 (LL.q x21)).2 ∧ (PA.s1 (LL.q x21)).3 = (PA.s1 (LL.q
x21)).3 ∧ (PA.s1 (LL.q x21)).4 = (PA.s1 (LL.q x21)).4) ∧ ((PA.s2 (LL.q x21)).1 = (PA.s2 (LL.q x21)).1 ∧ (PA.s2 (LL.q x21)).2 = (PA.s2 (LL.q x21)).2 ∧ (PA.s2 (LL.q x21)).3 = (PA.s2
(LL.q x21)).3 ∧ (PA.s2 (LL.q x21)).4 = (PA.s2 (LL.q x21)).4) ∧ ((PA.s3 (LL.q x21)).1 = (PA.s3 (LL.q x21)).1 ∧ (PA.s3 (LL.q x21)).2 = (PA.s3 (LL.q x21)).2 ∧ (PA.s3 (LL.q x21)).3 =
(PA.s3 (LL.q x21)).3 ∧ (PA.s3 (LL.q x21)).4 = (PA.s3 (LL.q x21)).4) ∧ (LL.q x21).4 = (LL.q x21).4 ∧ (LL.q x21).5 = (LL.q x21).5 ∧ (LL.q x21).6 = (LL.q x21).6 ∧ (LL.q x21).7 = (LL.q
x21).7 ∧ (LL.q x21).8 = (LL.q x21).8 ∧ True) ∧ Int.ofNat (3 : Nat) = (3 : Int) ∧ Int.ofNat (4 : Nat) = (4 : Int) ∧ True) ∧ (True ∧ FlatL (PA.s1 (LL.q x21)).5 ∧ (PA.s1 (LL.q x21)).5
= (PA.s1 (LL.q x21)).5) ∧ (True ∧ FlatL (PA.s2 (LL.q x21)).5 ∧ (PA.s2 (LL.q x21)).5 = (PA.s2 (LL.q x21)).5) ∧ (True ∧ FlatL (PA.s3 (LL.q x21)).5 ∧ (PA.s3 (LL.q x21)).5 = (PA.s3
(LL.q x21)).5) ∧ True) ∧ (∀ (x41 : PB), (∀ (x42 : PX), PH (PA.mk (SA.mk (PA.s1 (LL.q x21)).1 (PA.s1 (LL.q x21)).2 (PA.s1 (LL.q x21)).3 (PA.s1 (LL.q x21)).4 (PA.s1 (LL.q x21)).5)
(SA.mk (PA.s2 (LL.q x21)).1 (PA.s2 (LL.q x21)).2 (PA.s2 (LL.q x21)).3 (PA.s2 (LL.q x21)).4 (PA.s2 (LL.q x21)).5) (SA.mk (PA.s3 (LL.q x21)).1 (PA.s3 (LL.q x21)).2 (PA.s3 (LL.q
x21)).3 (PA.s3 (LL.q x21)).4 (PA.s3 (LL.q x21)).5) (LL.q x21).4 (LL.q x21).5 (LL.q x21).6 (LL.q x21).7 (LL.q x21).8) x42 → PH (PA.mk (SA.mk (PA.s1 (LL.q x21)).1 (0 : Nat) (PA.s1
(LL.q x21)).3 (PB.b1 x41).1 (PB.b1 x41).2) (SA.mk (PA.s2 (LL.q x21)).1 (0 : Nat) (PA.s2 (LL.q x21)).3 (PB.b2 x41).1 (PB.b2 x41).2) (SA.mk (PA.s3 (LL.q x21)).1 (0 : Nat) (PA.s3
(LL.q x21)).3 (PB.b3 x41).1 (PB.b3 x41).2) (LL.q x21).4 (LL.q x21).5 (LL.q x21).6 (LL.q x21).7 (LL.q x21).8) x42) → ∃ (x43 : LL), (((0 : Int) ≤ x43.1 ∧ x43.1 ≤ ↑x43.3) ∧ (x43.3 ≤
(70 : Nat) ∧ x43.3 ≤ x43.4) ∧ Ir x43.5 x43.3 ∧ Twin x43.7 x43.6) ∧ (((0 : Nat) = (0 : Nat) ∧ (0 : Nat) = (0 : Nat) ∧ (0 : Nat) = (0 : Nat) ∧ (0 : Int) = (0 : Int) ∧ x43.1 = (0 :
Int) ∧ True) ∧ ((True ∧ True ∧ True ∧ (x43.2 = (PA.s1 (LL.q x21)).1 ∧ (0 : Nat) = (0 : Nat) ∧ x43.3 = (PA.s1 (LL.q x21)).3 ∧ x43.4 = (PB.b1 x41).1) ∧ True ∧ True ∧ True ∧ True ∧
True ∧ True ∧ True ∧ True ∧ True) ∧ (x43.4 = (PB.b1 x41).1 ∧ FlatL x43.5 ∧ x43.5 = (PB.b1 x41).2) ∧ (True ∧ ((PA.s1 (LL.w x43)).1 = (PA.s1 (LL.w x21)).1 ∧ (PA.s1 (LL.w x43)).2 =
(PA.s1 (LL.w x21)).2 ∧ (PA.s1 (LL.w x43)).3 = (PA.s1 (LL.w x21)).3 ∧ (PA.s1 (LL.w x43)).4 = (PA.s1 (LL.w x21)).4) ∧ ((PA.s2 (LL.w x43)).1 = (PA.s2 (LL.w x21)).1 ∧ (PA.s2 (LL.w
x43)).2 = (PA.s2 (LL.w x21)).2 ∧ (PA.s2 (LL.w x43)).3 = (PA.s2 (LL.w x21)).3 ∧ (PA.s2 (LL.w x43)).4 = (PA.s2 (LL.w x21)).4) ∧ ((PA.s3 (LL.w x43)).1 = (PA.s3 (LL.w x21)).1 ∧ (PA.s3
(LL.w x43)).2 = (PA.s3 (LL.w x21)).2 ∧ (PA.s3 (LL.w x43)).3 = (PA.s3 (LL.w x21)).3 ∧ (PA.s3 (LL.w x43)).4 = (PA.s3 (LL.w x21)).4) ∧ (LL.w x43).4 = (LL.w x21).4 ∧ (LL.w x43).5 =
(LL.w x21).5 ∧ (LL.w x43).6 = (LL.w x21).6 ∧ (LL.w x43).7 = (LL.w x21).7 ∧ (LL.w x43).8 = (LL.w x21).8 ∧ True) ∧ (True ∧ a.1 = a.1 ∧ a.1 = a.1 ∧ ((PA.s1 (LL.q x43)).1 = (PA.s1
(LL.q x21)).1 ∧ (PA.s1 (LL.q x43)).2 = (PA.s1 (LL.q x21)).2 ∧ (PA.s1 (LL.q x43)).3 = (PA.s1 (LL.q x21)).3 ∧ (PA.s1 (LL.q x43)).4 = (PA.s1 (LL.q x21)).4) ∧ ((PA.s2 (LL.q x43)).1 =
(PA.s2 (LL.q x21)).1 ∧ (PA.s2 (LL.q x43)).2 = (PA.s2 (LL.q x21)).2 ∧ (PA.s2 (LL.q x43)).3 = (PA.s2 (LL.q x21)).3 ∧ (PA.s2 (LL.q x43)).4 = (PA.s2 (LL.q x21)).4) ∧ ((PA.s3 (LL.q
x43)).1 = (PA.s3 (LL.q x21)).1 ∧ (PA.s3 (LL.q x43)).2 = (PA.s3 (LL.q x21)).2 ∧ (PA.s3 (LL.q x43)).3 = (PA.s3 (LL.q x21)).3 ∧ (PA.s3 (LL.q x43)).4 = (PA.s3 (LL.q x21)).4) ∧ (LL.q
x43).4 = (LL.q x21).4 ∧ (LL.q x43).5 = (LL.q x21).5 ∧ (LL.q x43).6 = (LL.q x21).6 ∧ (LL.q x43).7 = (LL.q x21).7 ∧ (LL.q x43).8 = (LL.q x21).8 ∧ x43.8 = x21.8 ∧ True) ∧ (True ∧
FlatL (PA.s1 (LL.w x43)).5 ∧ (PA.s1 (LL.w x43)).5 = (PA.s1 (LL.w x21)).5) ∧ (True ∧ FlatL (PA.s2 (LL.w x43)).5 ∧ (PA.s2 (LL.w x43)).5 = (PA.s2 (LL.w x21)).5) ∧ (True ∧ FlatL (PA.s3
(LL.w x43)).5 ∧ (PA.s3 (LL.w x43)).5 = (PA.s3 (LL.w x21)).5) ∧ (True ∧ FlatL (PA.s1 (LL.q x43)).5 ∧ (PA.s1 (LL.q x43)).5 = (PA.s1 (LL.q x21)).5) ∧ (True ∧ FlatL (PA.s2 (LL.q
x43)).5 ∧ (PA.s2 (LL.q x43)).5 = (PA.s2 (LL.q x21)).5) ∧ (True ∧ FlatL (PA.s3 (LL.q x43)).5 ∧ (PA.s3 (LL.q x43)).5 = (PA.s3 (LL.q x21)).5) ∧ (True ∧ FlatL cells0 ∧ cells0 = cells0)
∧ (True ∧ FlatL cells1 ∧ cells1 = cells1) ∧ (True ∧ FlatL cells2 ∧ cells2 = cells2) ∧ (True ∧ FlatL cells4 ∧ cells4 = cells4) ∧ (True ∧ FlatL cells5 ∧ cells5 = cells5) ∧ (True ∧
FlatL cells6 ∧ cells6 = cells6) ∧ (True ∧ FlatL cells8 ∧ cells8 = cells8) ∧ (True ∧ FlatL cells9 ∧ cells9 = cells9) ∧ (True ∧ FlatL cells10 ∧ cells10 = cells10) ∧ True) ∧ True) ∧ ∀
(x44 : LL), ((0 : Int) ≤ x44.1 ∧ x44.1 ≤ ↑x44.3) ∧ (x44.3 ≤ (70 : Nat) ∧ x44.3 ≤ x44.4) ∧ Ir x44.5 x44.3 ∧ Twin x44.7 x44.6 → ∀ (x45 : Int), x45 = ↑x44.3 → (x44.1 < x45 → ((0 :
Int) ≤ x44.1 ∧ x44.1 < ↑x44.3) ∧ ∀ (x46 : Nat), x46 = (0 : Nat) + Int.toNat x44.1 * (1 : Nat) → ∃ (x47 : Int), Rd x44.5 (Nat.add x46 (0 : Nat)) (Value.int IntKind.i32 x47) ∧ ∀ (x48
: Int), x48 = IntKind.wrap IntKind.i32 (x47 + (1 : Int)) → ((0 : Int) ≤ x44.1 ∧ x44.1 < ↑x44.3) ∧ ∀ (x49 : Nat), x49 = (0 : Nat) + Int.toNat x44.1 * (1 : Nat) → x49 + (1 : Nat) ≤
List.length x44.5 ∧ ∀ (x50 : List Value), x50 = lput x44.5 x49 [Value.iface (1000000007 : Nat) (Value.int IntKind.i32 x48)] → ∀ (x51 : Int), x51 = IntKind.wrap IntKind.i64 (x44.1 +
(1 : Int)) → ∃ (x52 : LL), (((0 : Int) ≤ x52.1 ∧ x52.1 ≤ ↑x52.3) ∧ (x52.3 ≤ (70 : Nat) ∧ x52.3 ≤ x52.4) ∧ Ir x52.5 x52.3 ∧ Twin x52.7 x52.6) ∧ Int.toNat (↑x52.3 - x52.1) <
Int.toNat (↑x44.3 - x44.1) ∧ ((0 : Nat) = (0 : Nat) ∧ (0 : Nat) = (0 : Nat) ∧ (0 : Nat) = (0 : Nat) ∧ (0 : Int) = (0 : Int) ∧ x52.1 = x51 ∧ True) ∧ ((True ∧ True ∧ True ∧ (x52.2 =
x44.2 ∧ (0 : Nat) = (0 : Nat) ∧ x52.3 = x44.3 ∧ x52.4 = x44.4) ∧ True ∧ True ∧ True ∧ True ∧ True ∧ True ∧ True ∧ True ∧ True) ∧ (x52.4 = x44.4 ∧ FlatL x52.5 ∧ x52.5 = x50) ∧ (True
∧ ((PA.s1 (LL.w x52)).1 = (PA.s1 (LL.w x44)).1 ∧ (PA.s1 (LL.w x52)).2 = (PA.s1 (LL.w x44)).2 ∧ (PA.s1 (LL.w x52)).3 = (PA.s1 (LL.w x44)).3 ∧ (PA.s1 (LL.w x52)).4 = (PA.s1 (LL.w
x44)).4) ∧ ((PA.s2 (LL.w x52)).1 = (PA.s2 (LL.w x44)).1 ∧ (PA.s2 (LL.w x52)).2 = (PA.s2 (LL.w x44)).2 ∧ (PA.s2 (LL.w x52)).3 = (PA.s2 (LL.w x44)).3 ∧ (PA.s2 (LL.w x52)).4 = (PA.s2
(LL.w x44)).4) ∧ ((PA.s3 (LL.w x52)).1 = (PA.s3 (LL.w x44)).1 ∧ (PA.s3 (LL.w x52)).2 = (PA.s3 (LL.w x44)).2 ∧ (PA.s3 (LL.w x52)).3 = (PA.s3 (LL.w x44)).3 ∧ (PA.s3 (LL.w x52)).4 =
(PA.s3 (LL.w x44)).4) ∧ (LL.w x52).4 = (LL.w x44).4 ∧ (LL.w x52).5 = (LL.w x44).5 ∧ (LL.w x52).6 = (LL.w x44).6 ∧ (LL.w x52).7 = (LL.w x44).7 ∧ (LL.w x52).8 = (LL.w x44).8 ∧ True)
∧ (True ∧ a.1 = a.1 ∧ a.1 = a.1 ∧ ((PA.s1 (LL.q x52)).1 = (PA.s1 (LL.q x44)).1 ∧ (PA.s1 (LL.q x52)).2 = (PA.s1 (LL.q x44)).2 ∧ (PA.s1 (LL.q x52)).3 = (PA.s1 (LL.q x44)).3 ∧ (PA.s1
(LL.q x52)).4 = (PA.s1 (LL.q x44)).4) ∧ ((PA.s2 (LL.q x52)).1 = (PA.s2 (LL.q x44)).1 ∧ (PA.s2 (LL.q x52)).2 = (PA.s2 (LL.q x44)).2 ∧ (PA.s2 (LL.q x52)).3 = (PA.s2 (LL.q x44)).3 ∧
(PA.s2 (LL.q x52)).4 = (PA.s2 (LL.q x44)).4) ∧ ((PA.s3 (LL.q x52)).1 = (PA.s3 (LL.q x44)).1 ∧ (PA.s3 (LL.q x52)).2 = (PA.s3 (LL.q x44)).2 ∧ (PA.s3 (LL.q x52)).3 = (PA.s3 (LL.q
x44)).3 ∧ (PA.s3 (LL.q x52)).4 = (PA.s3 (LL.q x44)).4) ∧ (LL.q x52).4 = (LL.q x44).4 ∧ (LL.q x52).5 = (LL.q x44).5 ∧ (LL.q x52).6 = (LL.q x44).6 ∧ (LL.q x52).7 = (LL.q x44).7 ∧
(LL.q x52).8 = (LL.q x44).8 ∧ x52.8 = x44.8 ∧ True) ∧ (True ∧ FlatL (PA.s1 (LL.w x52)).5 ∧ (PA.s1 (LL.w x52)).5 = (PA.s1 (LL.w x44)).5) ∧ (True ∧ FlatL (PA.s2 (LL.w x52)).5 ∧
(PA.s2 (LL.w x52)).5 = (PA.s2 (LL.w x44)).5) ∧ (True ∧ FlatL (PA.s3 (LL.w x52)).5 ∧ (PA.s3 (LL.w x52)).5 = (PA.s3 (LL.w x44)).5) ∧ (True ∧ FlatL (PA.s1 (LL.q x52)).5 ∧ (PA.s1 (LL.q
x52)).5 = (PA.s1 (LL.q x44)).5) ∧ (True ∧ FlatL (PA.s2 (LL.q x52)).5 ∧ (PA.s2 (LL.q x52)).5 = (PA.s2 (LL.q x44)).5) ∧ (True ∧ FlatL (PA.s3 (LL.q x52)).5 ∧ (PA.s3 (LL.q x52)).5 =
(PA.s3 (LL.q x44)).5) ∧ (True ∧ FlatL cells0 ∧ cells0 = cells0) ∧ (True ∧ FlatL cells1 ∧ cells1 = cells1) ∧ (True ∧ FlatL cells2 ∧ cells2 = cells2) ∧ (True ∧ FlatL cells4 ∧ cells4
= cells4) ∧ (True ∧ FlatL cells5 ∧ cells5 = cells5) ∧ (True ∧ FlatL cells6 ∧ cells6 = cells6) ∧ (True ∧ FlatL cells8 ∧ cells8 = cells8) ∧ (True ∧ FlatL cells9 ∧ cells9 = cells9) ∧
(True ∧ FlatL cells10 ∧ cells10 = cells10) ∧ True) ∧ True) ∧ (¬x44.1 < x45 → (True ∧ True) ∧ (True ∧ (True ∧ FlatL cells0 ∧ cells0 = cells0) ∧ (True ∧ FlatL cells1 ∧ cells1 =
cells1) ∧ (True ∧ FlatL cells2 ∧ cells2 = cells2) ∧ (True ∧ FlatL cells4 ∧ cells4 = cells4) ∧ (True ∧ FlatL cells5 ∧ cells5 = cells5) ∧ (True ∧ FlatL cells6 ∧ cells6 = cells6) ∧
(True ∧ FlatL cells8 ∧ cells8 = cells8) ∧ (True ∧ FlatL cells9 ∧ cells9 = cells9) ∧ (True ∧ FlatL cells10 ∧ cells10 = cells10) ∧ True) ∧ (∀ (x53 : Unit), True → (True ∧ (∃ (x54 :
PX), PH (PA.mk (SA.mk (PA.s1 (LL.q x44)).1 (PA.s1 (LL.q x44)).2 (PA.s1 (LL.q x44)).3 (PA.s1 (LL.q x44)).4 (PA.s1 (LL.q x44)).5) (SA.mk (PA.s2 (LL.q x44)).1 (PA.s2 (LL.q x44)).2
(PA.s2 (LL.q x44)).3 (PA.s2 (LL.q x44)).4 (PA.s2 (LL.q x44)).5) (SA.mk (PA.s3 (LL.q x44)).1 (PA.s3 (LL.q x44)).2 (PA.s3 (LL.q x44)).3 (PA.s3 (LL.q x44)).4 (PA.s3 (LL.q x44)).5)
(LL.q x44).4 (LL.q x44).5 (LL.q x44).6 (LL.q x44).7 (LL.q x44).8) x54) ∧ (PA.s3 (LL.q x44)).3 ≤ (100 : Nat)) ∧ (((((PA.s1 (LL.q x44)).1 = (PA.s1 (LL.q x44)).1 ∧ (PA.s1 (LL.q
x44)).2 = (PA.s1 (LL.q x44)).2 ∧ (PA.s1 (LL.q x44)).3 = (PA.s1 (LL.q x44)).3 ∧ (PA.s1 (LL.q x44)).4 = (PA.s1 (LL.q x44)).4) ∧ ((PA.s2 (LL.q x44)).1 = (PA.s2 (LL.q x44)).1 ∧ (PA.s2
(LL.q x44)).2 = (PA.s2 (LL.q x44)).2 ∧ (PA.s2 (LL.q x44)).3 = (PA.s2 (LL.q x44)).3 ∧ (PA.s2 (LL.q x44)).4 = (PA.s2 (LL.q x44)).4) ∧ ((PA.s3 (LL.q x44)).1 = (PA.s3 (LL.q x44)).1 ∧
(PA.s3 (LL.q x44)).2 = (PA.s3 (LL.q x44)).2 ∧ (PA.s3 (LL.q x44)).3 = (PA.s3 (LL.q x44)).3 ∧ (PA.s3 (LL.q x44)).4 = (PA.s3 (LL.q x44)).4) ∧ (LL.q x44).4 = (LL.q x44).4 ∧ (LL.q
x44).5 = (LL.q x44).5 ∧ (LL.q x44).6 = (LL.q x44).6 ∧ (LL.q x44).7 = (LL.q x44).7 ∧ (LL.q x44).8 = (LL.q x44).8 ∧ True) ∧ True) ∧ (True ∧ FlatL (PA.s1 (LL.q x44)).5 ∧ (PA.s1 (LL.q
x44)).5 = (PA.s1 (LL.q x44)).5) ∧ (True ∧ FlatL (PA.s2 (LL.q x44)).5 ∧ (PA.s2 (LL.q x44)).5 = (PA.s2 (LL.q x44)).5) ∧ (True ∧ FlatL (PA.s3 (LL.q x44)).5 ∧ (PA.s3 (LL.q x44)).5 =
(PA.s3 (LL.q x44)).5) ∧ True) ∧ (∀ (x55 : RN), (∀ (x56 : List Int), Sli (Value.int IntKind.u8) (8 : Nat) (PA.s3 (LL.q x44)).1 (PA.s3 (LL.q x44)).2 (PA.s3 (LL.q x44)).3 (PA.s3 (LL.q
x44)).4 (PA.s3 (LL.q x44)).5 x56 → Sli (Value.int IntKind.u8) (8 : Nat) x55.1 (0 : Nat) (PA.s3 (LL.q x44)).3 x55.2 x55.3 x56) → (True ∧ ((∃ (x57 : PX), PH (PA.mk (SA.mk (PA.s1
(LL.q x44)).1 (PA.s1 (LL.q x44)).2 (PA.s1 (LL.q x44)).3 (PA.s1 (LL.q x44)).4 (PA.s1 (LL.q x44)).5) (SA.mk (PA.s2 (LL.q x44)).1 (PA.s2 (LL.q x44)).2 (PA.s2 (LL.q x44)).3 (PA.s2
(LL.q x44)).4 (PA.s2 (LL.q x44)).5) (SA.mk x55.1 (nat_lit 0) (PA.s3 (LL.q x44)).3 x55.2 x55.3) (LL.q x44).4 (LL.q x44).5 (LL.q x44).6 (LL.q x44).7 (LL.q x44).8) x57 ∧ PW (PA.mk
(SA.mk (PA.s1 (LL.q x44)).1 (PA.s1 (LL.q x44)).2 (PA.s1 (LL.q x44)).3 (PA.s1 (LL.q x44)).4 (PA.s1 (LL.q x44)).5) (SA.mk (PA.s2 (LL.q x44)).1 (PA.s2 (LL.q x44)).2 (PA.s2 (LL.q
x44)).3 (PA.s2 (LL.q x44)).4 (PA.s2 (LL.q x44)).5) (SA.mk x55.1 (nat_lit 0) (PA.s3 (LL.q x44)).3 x55.2 x55.3) (LL.q x44).4 (LL.q x44).5 (LL.q x44).6 (LL.q x44).7 (LL.q x44).8) x57)
∧ ∃ (x58 : PX), PH (PA.mk (SA.mk (PA.s1 (LL.w x44)).1 (PA.s1 (LL.w x44)).2 (PA.s1 (LL.w x44)).3 (PA.s1 (LL.w x44)).4 (PA.s1 (LL.w x44)).5) (SA.mk (PA.s2 (LL.w x44)).1 (PA.s2 (LL.w
x44)).2 (PA.s2 (LL.w x44)).3 (PA.s2 (LL.w x44)).4 (PA.s2 (LL.w x44)).5) (SA.mk (PA.s3 (LL.w x44)).1 (PA.s3 (LL.w x44)).2 (PA.s3 (LL.w x44)).3 (PA.s3 (LL.w x44)).4 (PA.s3 (LL.w
x44)).5) (LL.w x44).4 (LL.w x44).5 (LL.w x44).6 (LL.w x44).7 (LL.w x44).8) x58 ∧ PW (PA.mk (SA.mk (PA.s1 (LL.w x44)).1 (PA.s1 (LL.w x44)).2 (PA.s1 (LL.w x44)).3 (PA.s1 (LL.w
x44)).4 (PA.s1 (LL.w x44)).5) (SA.mk (PA.s2 (LL.w x44)).1 (PA.s2 (LL.w x44)).2 (PA.s2 (LL.w x44)).3 (PA.s2 (LL.w x44)).4 (PA.s2 (LL.w x44)).5) (SA.mk (PA.s3 (LL.w x44)).1 (PA.s3
(LL.w x44)).2 (PA.s3 (LL.w x44)).3 (PA.s3 (LL.w x44)).4 (PA.s3 (LL.w x44)).5) (LL.w x44).4 (LL.w x44).5 (LL.w x44).6 (LL.w x44).7 (LL.w x44).8) x58) ∧ ((PA.s1 (LL.q x44)).3 ≤ (70 :
Nat) ∧ (PA.s2 (LL.q x44)).3 ≤ (10 : Nat) ∧ (PA.s3 (LL.q x44)).3 ≤ (10 : Nat)) ∧ (PA.s1 (LL.w x44)).3 ≤ (70 : Nat) ∧ (PA.s2 (LL.w x44)).3 ≤ (10 : Nat) ∧ (PA.s3 (LL.w x44)).3 ≤ (10 :
Nat)) ∧ (((((PA.s1 (LL.q x44)).1 = (PA.s1 (LL.q x44)).1 ∧ (PA.s1 (LL.q x44)).2 = (PA.s1 (LL.q x44)).2 ∧ (PA.s1 (LL.q x44)).3 = (PA.s1 (LL.q x44)).3 ∧ (PA.s1 (LL.q x44)).4 = (PA.s1
(LL.q x44)).4) ∧ ((PA.s2 (LL.q x44)).1 = (PA.s2 (LL.q x44)).1 ∧ (PA.s2 (LL.q x44)).2 = (PA.s2 (LL.q x44)).2 ∧ (PA.s2 (LL.q x44)).3 = (PA.s2 (LL.q x44)).3 ∧ (PA.s2 (LL.q x44)).4 =
(PA.s2 (LL.q x44)).4) ∧ (x55.1 = x55.1 ∧ nat_lit 0 = (0 : Nat) ∧ (PA.s3 (LL.q x44)).3 = (PA.s3 (LL.q x44)).3 ∧ x55.2 = x55.2) ∧ (LL.q x44).4 = (LL.q x44).4 ∧ (LL.q x44).5 = (LL.q
x44).5 ∧ (LL.q x44).6 = (LL.q x44).6 ∧ (LL.q x44).7 = (LL.q x44).7 ∧ (LL.q x44).8 = (LL.q x44).8 ∧ True) ∧ (((PA.s1 (LL.w x44)).1 = (PA.s1 (LL.w x44)).1 ∧ (PA.s1 (LL.w x44)).2 =
(PA.s1 (LL.w x44)).2 ∧ (PA.s1 (LL.w x44)).3 = (PA.s1 (LL.w x44)).3 ∧ (PA.s1 (LL.w x44)).4 = (PA.s1 (LL.w x44)).4) ∧ ((PA.s2 (LL.w x44)).1 = (PA.s2 (LL.w x44)).1 ∧ (PA.s2 (LL.w
x44)).2 = (PA.s2 (LL.w x44)).2 ∧ (PA.s2 (LL.w x44)).3 = (PA.s2 (LL.w x44)).3 ∧ (PA.s2 (LL.w x44)).4 = (PA.s2 (LL.w x44)).4) ∧ ((PA.s3 (LL.w x44)).1 = (PA.s3 (LL.w x44)).1 ∧ (PA.s3
(LL.w x44)).2 = (PA.s3 (LL.w x44)).2 ∧ (PA.s3 (LL.w x44)).3 = (PA.s3 (LL.w x44)).3 ∧ (PA.s3 (LL.w x44)).4 = (PA.s3 (LL.w x44)).4) ∧ (LL.w x44).4 = (LL.w x44).4 ∧ (LL.w x44).5 =
(LL.w x44).5 ∧ (LL.w x44).6 = (LL.w x44).6 ∧ (LL.w x44).7 = (LL.w x44).7 ∧ (LL.w x44).8 = (LL.w x44).8 ∧ True) ∧ True) ∧ (True ∧ FlatL (PA.s1 (LL.q x44)).5 ∧ (PA.s1 (LL.q x44)).5 =
(PA.s1 (LL.q x44)).5) ∧ (True ∧ FlatL (PA.s2 (LL.q x44)).5 ∧ (PA.s2 (LL.q x44)).5 = (PA.s2 (LL.q x44)).5) ∧ (True ∧ FlatL x55.3 ∧ x55.3 = x55.3) ∧ (True ∧ FlatL (PA.s1 (LL.w
x44)).5 ∧ (PA.s1 (LL.w x44)).5 = (PA.s1 (LL.w x44)).5) ∧ (True ∧ FlatL (PA.s2 (LL.w x44)).5 ∧ (PA.s2 (LL.w x44)).5 = (PA.s2 (LL.w x44)).5) ∧ (True ∧ FlatL (PA.s3 (LL.w x44)).5 ∧
(PA.s3 (LL.w x44)).5 = (PA.s3 (LL.w x44)).5) ∧ True) ∧ (∀ (x59 : BL), (∀ (x60 x61 : PX), PH (PA.mk (SA.mk (PA.s1 (LL.q x44)).1 (PA.s1 (LL.q x44)).2 (PA.s1 (LL.q x44)).3 (PA.s1
(LL.q x44)).4 (PA.s1 (LL.q x44)).5) (SA.mk (PA.s2 (LL.q x44)).1 (PA.s2 (LL.q x44)).2 (PA.s2 (LL.q x44)).3 (PA.s2 (LL.q x44)).4 (PA.s2 (LL.q x44)).5) (SA.mk x55.1 (nat_lit 0) (PA.s3
(LL.q x44)).3 x55.2 x55.3) (LL.q x44).4 (LL.q x44).5 (LL.q x44).6 (LL.q x44).7 (LL.q x44).8) x60 → PH (PA.mk (SA.mk (PA.s1 (LL.w x44)).1 (PA.s1 (LL.w x44)).2 (PA.s1 (LL.w x44)).3
(PA.s1 (LL.w x44)).4 (PA.s1 (LL.w x44)).5) (SA.mk (PA.s2 (LL.w x44)).1 (PA.s2 (LL.w x44)).2 (PA.s2 (LL.w x44)).3 (PA.s2 (LL.w x44)).4 (PA.s2 (LL.w x44)).5) (SA.mk (PA.s3 (LL.w
x44)).1 (PA.s3 (LL.w x44)).2 (PA.s3 (LL.w x44)).3 (PA.s3 (LL.w x44)).4 (PA.s3 (LL.w x44)).5) (LL.w x44).4 (LL.w x44).5 (LL.w x44).6 (LL.w x44).7 (LL.w x44).8) x61 → (x59.1 =
Bool.true ↔ enc (PA.mk (SA.mk (PA.s1 (LL.q x44)).1 (PA.s1 (LL.q x44)).2 (PA.s1 (LL.q x44)).3 (PA.s1 (LL.q x44)).4 (PA.s1 (LL.q x44)).5) (SA.mk (PA.s2 (LL.q x44)).1 (PA.s2 (LL.q
x44)).2 (PA.s2 (LL.q x44)).3 (PA.s2 (LL.q x44)).4 (PA.s2 (LL.q x44)).5) (SA.mk x55.1 (nat_lit 0) (PA.s3 (LL.q x44)).3 x55.2 x55.3) (LL.q x44).4 (LL.q x44).5 (LL.q x44).6 (LL.q
x44).7 (LL.q x44).8) x60 = enc (PA.mk (SA.mk (PA.s1 (LL.w x44)).1 (PA.s1 (LL.w x44)).2 (PA.s1 (LL.w x44)).3 (PA.s1 (LL.w x44)).4 (PA.s1 (LL.w x44)).5) (SA.mk (PA.s2 (LL.w x44)).1
(PA.s2 (LL.w x44)).2 (PA.s2 (LL.w x44)).3 (PA.s2 (LL.w x44)).4 (PA.s2 (LL.w x44)).5) (SA.mk (PA.s3 (LL.w x44)).1 (PA.s3 (LL.w x44)).2 (PA.s3 (LL.w x44)).3 (PA.s3 (LL.w x44)).4
(PA.s3 (LL.w x44)).5) (LL.w x44).4 (LL.w x44).5 (LL.w x44).6 (LL.w x44).7 (LL.w x44).8) x61)) → (True ∧ True ∧ True ∧ True ∧ True ∧ True ∧ True ∧ True ∧ True ∧ (W_G_apart_0 x44 =
W_G_apart_0 x44 ∧ True) ∧ True ∧ True ∧ True ∧ True) ∧ ∃ (x62 : Unit), True ∧ Bool.true = x59.1 ∧ True) ∧ True) ∧ True) ∧ True)) ∧ True) ∧ (x35.1 = Bool.false → (True ∧ True ∧ True
∧ (W_G_apart_0 x21 = W_G_apart_0 x21 ∧ True) ∧ True ∧ True ∧ True) ∧ ∃ (x63 : Unit), True ∧ Bool.true = Bool.false ∧ True)) ∧ True) ∧ True)) ∧ True) ∧ True) ∧ True) ∧ (¬(0 : Nat) ≤
(0 : Nat) → Few (0 : Nat) (4 : Nat) ∧ (0 : Nat) ≤ (0 : Nat) ∧ ∀ (x64 : Nat) (x65 : List Value), x64 = (0 : Nat) → x65 = lwin [] (0 : Nat) (0 : Nat) ++ [] → (True ∧ (∃ (x66 : PX),
PH (PA.mk (SA.mk Bool.false (nat_lit 0) x64 x64 x65) (SA.mk (PA.s2 (AA.p a)).1 (nat_lit 0) (Min.min (PA.s2 (AA.p a)).3 (10 : Nat)) (PB.b2 x3).1 (PB.b2 x3).2) (SA.mk (PA.s3 (AA.p
a)).1 (nat_lit 0) (Min.min (PA.s3 (AA.p a)).3 (10 : Nat)) (PB.b3 x3).1 (PB.b3 x3).2) (AA.p a).4 (AA.p a).5 (AA.p a).6 (AA.p a).7 (AA.p a).8) x66) ∧ x64 ≤ (100 : Nat) ∧ Min.min
(PA.s2 (AA.p a)).3 (10 : Nat) ≤ (100 : Nat) ∧ Min.min (PA.s3 (AA.p a)).3 (10 : Nat) ≤ (100 : Nat)) ∧ ((((Bool.false = Bool.false ∧ nat_lit 0 = (0 : Nat) ∧ x64 = x64 ∧ x64 = x64) ∧
((PA.s2 (AA.p a)).1 = (PA.s2 (AA.p a)).1 ∧ nat_lit 0 = (0 : Nat) ∧ Min.min (PA.s2 (AA.p a)).3 (10 : Nat) = Min.min (PA.s2 (AA.p a)).3 (10 : Nat) ∧ (PB.b2 x3).1 = (PB.b2 x3).1) ∧
((PA.s3 (AA.p a)).1 = (PA.s3 (AA.p a)).1 ∧ nat_lit 0 = (0 : Nat) ∧ Min.min (PA.s3 (AA.p a)).3 (10 : Nat) = Min.min (PA.s3 (AA.p a)).3 (10 : Nat) ∧ (PB.b3 x3).1 = (PB.b3 x3).1) ∧
(AA.p a).4 = (AA.p a).4 ∧ (AA.p a).5 = (AA.p a).5 ∧ (AA.p a).6 = (AA.p a).6 ∧ (AA.p a).7 = (AA.p a).7 ∧ (AA.p a).8 = (AA.p a).8 ∧ True) ∧ True) ∧ (True ∧ FlatL x65 ∧ x65 = x65) ∧
(True ∧ FlatL (PB.b2 x3).2 ∧ (PB.b2 x3).2 = (PB.b2 x3).2) ∧ (True ∧ FlatL (PB.b3 x3).2 ∧ (PB.b3 x3).2 = (PB.b3 x3).2) ∧ True) ∧ (∀ (x67 : PB), (∀ (x68 : PX), PH (PA.mk (SA.mk
Bool.false (nat_lit 0) x64 x64 x65) (SA.mk (PA.s2 (AA.p a)).1 (nat_lit 0) (Min.min (PA.s2 (AA.p a)).3 (10 : Nat)) (PB.b2 x3).1 (PB.b2 x3).2) (SA.mk (PA.s3 (AA.p a)).1 (nat_lit 0)
(Min.min (PA.s3 (AA.p a)).3 (10 : Nat)) (PB.b3 x3).1 (PB.b3 x3).2) (AA.p a).4 (AA.p a).5 (AA.p a).6 (AA.p a).7 (AA.p a).8) x68 → PH (PA.mk (SA.mk Bool.false (0 : Nat) x64 (PB.b1
x67).1 (PB.b1 x67).2) (SA.mk (PA.s2 (AA.p a)).1 (0 : Nat) (Min.min (PA.s2 (AA.p a)).3 (10 : Nat)) (PB.b2 x67).1 (PB.b2 x67).2) (SA.mk (PA.s3 (AA.p a)).1 (0 : Nat) (Min.min (PA.s3
(AA.p a)).3 (10 : Nat)) (PB.b3 x67).1 (PB.b3 x67).2) (AA.p a).4 (AA.p a).5 (AA.p a).6 (AA.p a).7 (AA.p a).8) x68) → (True ∧ (∃ (x69 : PX), PH (PA.mk (SA.mk Bool.false (nat_lit 0)
x64 (PB.b1 x67).1 (PB.b1 x67).2) (SA.mk (PA.s2 (AA.p a)).1 (nat_lit 0) (Min.min (PA.s2 (AA.p a)).3 (10 : Nat)) (PB.b2 x67).1 (PB.b2 x67).2) (SA.mk (PA.s3 (AA.p a)).1 (nat_lit 0)
(Min.min (PA.s3 (AA.p a)).3 (10 : Nat)) (PB.b3 x67).1 (PB.b3 x67).2) (AA.p a).4 (AA.p a).5 (AA.p a).6 (AA.p a).7 (AA.p a).8) x69) ∧ Min.min (PA.s3 (AA.p a)).3 (10 : Nat) ≤ (100 :
Nat)) ∧ ((((Bool.false = Bool.false ∧ nat_lit 0 = (0 : Nat) ∧ x64 = x64 ∧ (PB.b1 x67).1 = (PB.b1 x67).1) ∧ ((PA.s2 (AA.p a)).1 = (PA.s2 (AA.p a)).1 ∧ nat_lit 0 = (0 : Nat) ∧
Min.min (PA.s2 (AA.p a)).3 (10 : Nat) = Min.min (PA.s2 (AA.p a)).3 (10 : Nat) ∧ (PB.b2 x67).1 = (PB.b2 x67).1) ∧ ((PA.s3 (AA.p a)).1 = (PA.s3 (AA.p a)).1 ∧ nat_lit 0 = (0 : Nat) ∧
Min.min (PA.s3 (AA.p a)).3 (10 : Nat) = Min.min (PA.s3 (AA.p a)).3 (10 : Nat) ∧ (PB.b3 x67).1 = (PB.b3 x67).1) ∧ (AA.p a).4 = (AA.p a).4 ∧ (AA.p a).5 = (AA.p a).5 ∧ (AA.p a).6 =
(AA.p a).6 ∧ (AA.p a).7 = (AA.p a).7 ∧ (AA.p a).8 = (AA.p a).8 ∧ True) ∧ True) ∧ (True ∧ FlatL (PB.b1 x67).2 ∧ (PB.b1 x67).2 = (PB.b1 x67).2) ∧ (True ∧ FlatL (PB.b2 x67).2 ∧ (PB.b2
x67).2 = (PB.b2 x67).2) ∧ (True ∧ FlatL (PB.b3 x67).2 ∧ (PB.b3 x67).2 = (PB.b3 x67).2) ∧ True) ∧ (∀ (x70 : RN), (∀ (x71 : List Int), Sli (Value.int IntKind.u8) (8 : Nat) (PA.s3
(AA.p a)).1 (nat_lit 0) (Min.min (PA.s3 (AA.p a)).3 (10 : Nat)) (PB.b3 x67).1 (PB.b3 x67).2 x71 → Sli (Value.int IntKind.u8) (8 : Nat) x70.1 (0 : Nat) (Min.min (PA.s3 (AA.p a)).3
(10 : Nat)) x70.2 x70.3 x71) → ∀ (x72 : Int), x72 = IntKind.wrap IntKind.i64 a.1 → (True ∧ (∃ (x73 : PX), PH (PA.mk (SA.mk Bool.false (nat_lit 0) x64 x64 x65) (SA.mk (PA.s2 (AA.p
a)).1 (nat_lit 0) (Min.min (PA.s2 (AA.p a)).3 (10 : Nat)) (PB.b2 x3).1 (PB.b2 x3).2) (SA.mk (PA.s3 (AA.p a)).1 (nat_lit 0) (Min.min (PA.s3 (AA.p a)).3 (10 : Nat)) (PB.b3 x3).1
(PB.b3 x3).2) (AA.p a).4 (AA.p a).5 (AA.p a).6 (AA.p a).7 (AA.p a).8) x73) ∧ wthn x72 (Int.ofNat (3 : Nat)) (Int.ofNat (4 : Nat)) = (0 : Int) ∧ x64 ≤ (100 : Nat) ∧ Min.min (PA.s2
(AA.p a)).3 (10 : Nat) ≤ (100 : Nat) ∧ Min.min (PA.s3 (AA.p a)).3 (10 : Nat) ≤ (100 : Nat)) ∧ ((x72 = x72 ∧ ((Bool.false = Bool.false ∧ nat_lit 0 = (0 : Nat) ∧ x64 = x64 ∧ x64 =
x64) ∧ ((PA.s2 (AA.p a)).1 = (PA.s2 (AA.p a)).1 ∧ nat_lit 0 = (0 : Nat) ∧ Min.min (PA.s2 (AA.p a)).3 (10 : Nat) = Min.min (PA.s2 (AA.p a)).3 (10 : Nat) ∧ (PB.b2 x3).1 = (PB.b2
x3).1) ∧ ((PA.s3 (AA.p a)).1 = (PA.s3 (AA.p a)).1 ∧ nat_lit 0 = (0 : Nat) ∧ Min.min (PA.s3 (AA.p a)).3 (10 : Nat) = Min.min (PA.s3 (AA.p a)).3 (10 : Nat) ∧ (PB.b3 x3).1 = (PB.b3
x3).1) ∧ (AA.p a).4 = (AA.p a).4 ∧ (AA.p a).5 = (AA.p a).5 ∧ (AA.p a).6 = (AA.p a).6 ∧ (AA.p a).7 = (AA.p a).7 ∧ (AA.p a).8 = (AA.p a).8 ∧ True) ∧ Int.ofNat (3 : Nat) = (3 : Int) ∧
Int.ofNat (4 : Nat) = (4 : Int) ∧ True) ∧ (True ∧ FlatL x65 ∧ x65 = x65) ∧ (True ∧ FlatL (PB.b2 x3).2 ∧ (PB.b2 x3).2 = (PB.b2 x3).2) ∧ (True ∧ FlatL (PB.b3 x3).2 ∧ (PB.b3 x3).2 =
(PB.b3 x3).2) ∧ True) ∧ (∀ (x74 : PB), (∀ (x75 : PX), PH (PA.mk (SA.mk Bool.false (nat_lit 0) x64 x64 x65) (SA.mk (PA.s2 (AA.p a)).1 (nat_lit 0) (Min.min (PA.s2 (AA.p a)).3 (10 :
Nat)) (PB.b2 x3).1 (PB.b2 x3).2) (SA.mk (PA.s3 (AA.p a)).1 (nat_lit 0) (Min.min (PA.s3 (AA.p a)).3 (10 : Nat)) (PB.b3 x3).1 (PB.b3 x3).2) (AA.p a).4 (AA.p a).5 (AA.p a).6 (AA.p
a).7 (AA.p a).8) x75 → PH (PA.mk (SA.mk Bool.false (0 : Nat) x64 (PB.b1 x74).1 (PB.b1 x74).2) (SA.mk (PA.s2 (AA.p a)).1 (0 : Nat) (Min.min (PA.s2 (AA.p a)).3 (10 : Nat)) (PB.b2
x74).1 (PB.b2 x74).2) (SA.mk (PA.s3 (AA.p a)).1 (0 : Nat) (Min.min (PA.s3 (AA.p a)).3 (10 : Nat)) (PB.b3 x74).1 (PB.b3 x74).2) (AA.p a).4 (AA.p a).5 (AA.p a).6 (AA.p a).7 (AA.p
a).8) x75) → ∃ (x76 : LL), (((0 : Int) ≤ x76.1 ∧ x76.1 ≤ ↑x76.3) ∧ (x76.3 ≤ (70 : Nat) ∧ x76.3 ≤ x76.4) ∧ Ir x76.5 x76.3 ∧ Twin x76.7 x76.6) ∧ ((a.1 = a.1 ∧ (0 : Nat) = (0 : Nat) ∧
(0 : Nat) = (0 : Nat) ∧ (0 : Nat) = (0 : Nat) ∧ x76.1 = (0 : Int) ∧ True) ∧ ((True ∧ ((0 : Nat) = (0 : Nat) ∧ x76.3 = x64 ∧ x76.4 = x64) ∧ True ∧ True ∧ True ∧ True ∧ True ∧ True ∧
True ∧ True) ∧ (x76.4 = x64 ∧ FlatL x76.5 ∧ x76.5 = x65) ∧ (True ∧ ((PA.s1 (LL.w x76)).1 = Bool.false ∧ (PA.s1 (LL.w x76)).2 = nat_lit 0 ∧ (PA.s1 (LL.w x76)).3 = x64 ∧ (PA.s1 (LL.w
x76)).4 = (PB.b1 x67).1) ∧ ((PA.s2 (LL.w x76)).1 = (PA.s2 (AA.p a)).1 ∧ (PA.s2 (LL.w x76)).2 = nat_lit 0 ∧ (PA.s2 (LL.w x76)).3 = Min.min (PA.s2 (AA.p a)).3 (10 : Nat) ∧ (PA.s2
(LL.w x76)).4 = (PB.b2 x67).1) ∧ ((PA.s3 (LL.w x76)).1 = x70.1 ∧ (PA.s3 (LL.w x76)).2 = (0 : Nat) ∧ (PA.s3 (LL.w x76)).3 = Min.min (PA.s3 (AA.p a)).3 (10 : Nat) ∧ (PA.s3 (LL.w
x76)).4 = x70.2) ∧ (LL.w x76).4 = (AA.p a).4 ∧ (LL.w x76).5 = (AA.p a).5 ∧ (LL.w x76).6 = (AA.p a).6 ∧ (LL.w x76).7 = (AA.p a).7 ∧ (LL.w x76).8 = (AA.p a).8 ∧ True) ∧ (True ∧ a.1 =
x72 ∧ a.1 = x72 ∧ ((PA.s1 (LL.q x76)).1 = Bool.false ∧ (PA.s1 (LL.q x76)).2 = (0 : Nat) ∧ (PA.s1 (LL.q x76)).3 = x64 ∧ (PA.s1 (LL.q x76)).4 = (PB.b1 x74).1) ∧ ((PA.s2 (LL.q x76)).1
= (PA.s2 (AA.p a)).1 ∧ (PA.s2 (LL.q x76)).2 = (0 : Nat) ∧ (PA.s2 (LL.q x76)).3 = Min.min (PA.s2 (AA.p a)).3 (10 : Nat) ∧ (PA.s2 (LL.q x76)).4 = (PB.b2 x74).1) ∧ ((PA.s3 (LL.q
x76)).1 = (PA.s3 (AA.p a)).1 ∧ (PA.s3 (LL.q x76)).2 = (0 : Nat) ∧ (PA.s3 (LL.q x76)).3 = Min.min (PA.s3 (AA.p a)).3 (10 : Nat) ∧ (PA.s3 (LL.q x76)).4 = (PB.b3 x74).1) ∧ (LL.q
x76).4 = (AA.p a).4 ∧ (LL.q x76).5 = (AA.p a).5 ∧ (LL.q x76).6 = (AA.p a).6 ∧ (LL.q x76).7 = (AA.p a).7 ∧ (LL.q x76).8 = (AA.p a).8 ∧ x76.8 = Int.ofNat (3 : Nat) + Int.ofNat (4 :
Nat) ∧ True) ∧ (True ∧ FlatL (PA.s1 (LL.w x76)).5 ∧ (PA.s1 (LL.w x76)).5 = (PB.b1 x67).2) ∧ (True ∧ FlatL (PA.s2 (LL.w x76)).5 ∧ (PA.s2 (LL.w x76)).5 = (PB.b2 x67).2) ∧ (True ∧
FlatL (PA.s3 (LL.w x76)).5 ∧ (PA.s3 (LL.w x76)).5 = x70.3) ∧ (True ∧ FlatL (PA.s1 (LL.q x76)).5 ∧ (PA.s1 (LL.q x76)).5 = (PB.b1 x74).2) ∧ (True ∧ FlatL (PA.s2 (LL.q x76)).5 ∧
(PA.s2 (LL.q x76)).5 = (PB.b2 x74).2) ∧ (True ∧ FlatL (PA.s3 (LL.q x76)).5 ∧ (PA.s3 (LL.q x76)).5 = (PB.b3 x74).2) ∧ (True ∧ FlatL cells0 ∧ cells0 = cells0) ∧ (True ∧ FlatL cells1
∧ cells1 = cells1) ∧ (True ∧ FlatL cells2 ∧ cells2 = cells2) ∧ (True ∧ FlatL cells4 ∧ cells4 = cells4) ∧ (True ∧ FlatL cells5 ∧ cells5 = cells5) ∧ (True ∧ FlatL cells6 ∧ cells6 =
cells6) ∧ (True ∧ FlatL cells8 ∧ cells8 = cells8) ∧ (True ∧ FlatL cells9 ∧ cells9 = cells9) ∧ (True ∧ FlatL cells10 ∧ cells10 = cells10) ∧ True) ∧ True) ∧ ∀ (x77 : LL), ((0 : Int)
≤ x77.1 ∧ x77.1 ≤ ↑x77.3) ∧ (x77.3 ≤ (70 : Nat) ∧ x77.3 ≤ x77.4) ∧ Ir x77.5 x77.3 ∧ Twin x77.7 x77.6 → ∀ (x78 : Int), x78 = ↑x77.3 → (x77.1 < x78 → ((0 : Int) ≤ x77.1 ∧ x77.1 <
↑x77.3) ∧ ∀ (x79 : Nat), x79 = (0 : Nat) + Int.toNat x77.1 * (1 : Nat) → ∃ (x80 : Int), Rd x77.5 (Nat.add x79 (0 : Nat)) (Value.int IntKind.i32 x80) ∧ ∀ (x81 : Int), x81 =
IntKind.wrap IntKind.i32 (x80 + (1 : Int)) → ((0 : Int) ≤ x77.1 ∧ x77.1 < ↑x77.3) ∧ ∀ (x82 : Nat), x82 = (0 : Nat) + Int.toNat x77.1 * (1 : Nat) → x82 + (1 : Nat) ≤ List.length
x77.5 ∧ ∀ (x83 : List Value), x83 = lput x77.5 x82 [Value.iface (1000000007 : Nat) (Value.int IntKind.i32 x81)] → ∀ (x84 : Int), x84 = IntKind.wrap IntKind.i64 (x77.1 + (1 : Int))
→ ∃ (x85 : LL), (((0 : Int) ≤ x85.1 ∧ x85.1 ≤ ↑x85.3) ∧ (x85.3 ≤ (70 : Nat) ∧ x85.3 ≤ x85.4) ∧ Ir x85.5 x85.3 ∧ Twin x85.7 x85.6) ∧ Int.toNat (↑x85.3 - x85.1) < Int.toNat (↑x77.3 -
x77.1) ∧ (a.1 = a.1 ∧ (0 : Nat) = (0 : Nat) ∧ (0 : Nat) = (0 : Nat) ∧ (0 : Nat) = (0 : Nat) ∧ x85.1 = x84 ∧ True) ∧ ((True ∧ ((0 : Nat) = (0 : Nat) ∧ x85.3 = x77.3 ∧ x85.4 = x77.4)
∧ True ∧ True ∧ True ∧ True ∧ True ∧ True ∧ True ∧ True) ∧ (x85.4 = x77.4 ∧ FlatL x85.5 ∧ x85.5 = x83) ∧ (True ∧ ((PA.s1 (LL.w x85)).1 = (PA.s1 (LL.w x77)).1 ∧ (PA.s1 (LL.w x85)).2
= (PA.s1 (LL.w x77)).2 ∧ (PA.s1 (LL.w x85)).3 = (PA.s1 (LL.w x77)).3 ∧ (PA.s1 (LL.w x85)).4 = (PA.s1 (LL.w x77)).4) ∧ ((PA.s2 (LL.w x85)).1 = (PA.s2 (LL.w x77)).1 ∧ (PA.s2 (LL.w
x85)).2 = (PA.s2 (LL.w x77)).2 ∧ (PA.s2 (LL.w x85)).3 = (PA.s2 (LL.w x77)).3 ∧ (PA.s2 (LL.w x85)).4 = (PA.s2 (LL.w x77)).4) ∧ ((PA.s3 (LL.w x85)).1 = (PA.s3 (LL.w x77)).1 ∧ (PA.s3
(LL.w x85)).2 = (PA.s3 (LL.w x77)).2 ∧ (PA.s3 (LL.w x85)).3 = (PA.s3 (LL.w x77)).3 ∧ (PA.s3 (LL.w x85)).4 = (PA.s3 (LL.w x77)).4) ∧ (LL.w x85).4 = (LL.w x77).4 ∧ (LL.w x85).5 =
(LL.w x77).5 ∧ (LL.w x85).6 = (LL.w x77).6 ∧ (LL.w x85).7 = (LL.w x77).7 ∧ (LL.w x85).8 = (LL.w x77).8 ∧ True) ∧ (True ∧ a.1 = a.1 ∧ a.1 = a.1 ∧ ((PA.s1 (LL.q x85)).1 = (PA.s1
(LL.q x77)).1 ∧ (PA.s1 (LL.q x85)).2 = (PA.s1 (LL.q x77)).2 ∧ (PA.s1 (LL.q x85)).3 = (PA.s1 (LL.q x77)).3 ∧ (PA.s1 (LL.q x85)).4 = (PA.s1 (LL.q x77)).4) ∧ ((PA.s2 (LL.q x85)).1 =
(PA.s2 (LL.q x77)).1 ∧ (PA.s2 (LL.q x85)).2 = (PA.s2 (LL.q x77)).2 ∧ (PA.s2 (LL.q x85)).3 = (PA.s2 (LL.q x77)).3 ∧ (PA.s2 (LL.q x85)).4 = (PA.s2 (LL.q x77)).4) ∧ ((PA.s3 (LL.q
x85)).1 = (PA.s3 (LL.q x77)).1 ∧ (PA.s3 (LL.q x85)).2 = (PA.s3 (LL.q x77)).2 ∧ (PA.s3 (LL.q x85)).3 = (PA.s3 (LL.q x77)).3 ∧ (PA.s3 (LL.q x85)).4 = (PA.s3 (LL.q x77)).4) ∧ (LL.q
x85).4 = (LL.q x77).4 ∧ (LL.q x85).5 = (LL.q x77).5 ∧ (LL.q x85).6 = (LL.q x77).6 ∧ (LL.q x85).7 = (LL.q x77).7 ∧ (LL.q x85).8 = (LL.q x77).8 ∧ x85.8 = x77.8 ∧ True) ∧ (True ∧
FlatL (PA.s1 (LL.w x85)).5 ∧ (PA.s1 (LL.w x85)).5 = (PA.s1 (LL.w x77)).5) ∧ (True ∧ FlatL (PA.s2 (LL.w x85)).5 ∧ (PA.s2 (LL.w x85)).5 = (PA.s2 (LL.w x77)).5) ∧ (True ∧ FlatL (PA.s3
(LL.w x85)).5 ∧ (PA.s3 (LL.w x85)).5 = (PA.s3 (LL.w x77)).5) ∧ (True ∧ FlatL (PA.s1 (LL.q x85)).5 ∧ (PA.s1 (LL.q x85)).5 = (PA.s1 (LL.q x77)).5) ∧ (True ∧ FlatL (PA.s2 (LL.q
x85)).5 ∧ (PA.s2 (LL.q x85)).5 = (PA.s2 (LL.q x77)).5) ∧ (True ∧ FlatL (PA.s3 (LL.q x85)).5 ∧ (PA.s3 (LL.q x85)).5 = (PA.s3 (LL.q x77)).5) ∧ (True ∧ FlatL cells0 ∧ cells0 = cells0)
∧ (True ∧ FlatL cells1 ∧ cells1 = cells1) ∧ (True ∧ FlatL cells2 ∧ cells2 = cells2) ∧ (True ∧ FlatL cells4 ∧ cells4 = cells4) ∧ (True ∧ FlatL cells5 ∧ cells5 = cells5) ∧ (True ∧
FlatL cells6 ∧ cells6 = cells6) ∧ (True ∧ FlatL cells8 ∧ cells8 = cells8) ∧ (True ∧ FlatL cells9 ∧ cells9 = cells9) ∧ (True ∧ FlatL cells10 ∧ cells10 = cells10) ∧ True) ∧ True) ∧
(¬x77.1 < x78 → (True ∧ (∃ (x86 : PX), PH (PA.mk (SA.mk (PA.s1 (LL.q x77)).1 (PA.s1 (LL.q x77)).2 (PA.s1 (LL.q x77)).3 (PA.s1 (LL.q x77)).4 (PA.s1 (LL.q x77)).5) (SA.mk (PA.s2
(LL.q x77)).1 (PA.s2 (LL.q x77)).2 (PA.s2 (LL.q x77)).3 (PA.s2 (LL.q x77)).4 (PA.s2 (LL.q x77)).5) (SA.mk (PA.s3 (LL.q x77)).1 (PA.s3 (LL.q x77)).2 (PA.s3 (LL.q x77)).3 (PA.s3
(LL.q x77)).4 (PA.s3 (LL.q x77)).5) (LL.q x77).4 (LL.q x77).5 (LL.q x77).6 (LL.q x77).7 (LL.q x77).8) x86) ∧ (PA.s3 (LL.q x77)).3 ≤ (100 : Nat)) ∧ (((((PA.s1 (LL.q x77)).1 = (PA.s1
(LL.q x77)).1 ∧ (PA.s1 (LL.q x77)).2 = (PA.s1 (LL.q x77)).2 ∧ (PA.s1 (LL.q x77)).3 = (PA.s1 (LL.q x77)).3 ∧ (PA.s1 (LL.q x77)).4 = (PA.s1 (LL.q x77)).4) ∧ ((PA.s2 (LL.q x77)).1 =
(PA.s2 (LL.q x77)).1 ∧ (PA.s2 (LL.q x77)).2 = (PA.s2 (LL.q x77)).2 ∧ (PA.s2 (LL.q x77)).3 = (PA.s2 (LL.q x77)).3 ∧ (PA.s2 (LL.q x77)).4 = (PA.s2 (LL.q x77)).4) ∧ ((PA.s3 (LL.q
x77)).1 = (PA.s3 (LL.q x77)).1 ∧ (PA.s3 (LL.q x77)).2 = (PA.s3 (LL.q x77)).2 ∧ (PA.s3 (LL.q x77)).3 = (PA.s3 (LL.q x77)).3 ∧ (PA.s3 (LL.q x77)).4 = (PA.s3 (LL.q x77)).4) ∧ (LL.q
x77).4 = (LL.q x77).4 ∧ (LL.q x77).5 = (LL.q x77).5 ∧ (LL.q x77).6 = (LL.q x77).6 ∧ (LL.q x77).7 = (LL.q x77).7 ∧ (LL.q x77).8 = (LL.q x77).8 ∧ True) ∧ True) ∧ (True ∧ FlatL (PA.s1
(LL.q x77)).5 ∧ (PA.s1 (LL.q x77)).5 = (PA.s1 (LL.q x77)).5) ∧ (True ∧ FlatL (PA.s2 (LL.q x77)).5 ∧ (PA.s2 (LL.q x77)).5 = (PA.s2 (LL.q x77)).5) ∧ (True ∧ FlatL (PA.s3 (LL.q
x77)).5 ∧ (PA.s3 (LL.q x77)).5 = (PA.s3 (LL.q x77)).5) ∧ True) ∧ (∀ (x87 : RN), (∀ (x88 : List Int), Sli (Value.int IntKind.u8) (8 : Nat) (PA.s3 (LL.q x77)).1 (PA.s3 (LL.q x77)).2
(PA.s3 (LL.q x77)).3 (PA.s3 (LL.q x77)).4 (PA.s3 (LL.q x77)).5 x88 → Sli (Value.int IntKind.u8) (8 : Nat) x87.1 (0 : Nat) (PA.s3 (LL.q x77)).3 x87.2 x87.3 x88) → (True ∧ ((∃ (x89 :
PX), PH (PA.mk (SA.mk (PA.s1 (LL.q x77)).1 (PA.s1 (LL.q x77)).2 (PA.s1 (LL.q x77)).3 (PA.s1 (LL.q x77)).4 (PA.s1 (LL.q x77)).5) (SA.mk (PA.s2 (LL.q x77)).1 (PA.s2 (LL.q x77)).2
(PA.s2 (LL.q x77)).3 (PA.s2 (LL.q x77)).4 (PA.s2 (LL.q x77)).5) (SA.mk x87.1 (nat_lit 0) (PA.s3 (LL.q x77)).3 x87.2 x87.3) (LL.q x77).4 (LL.q x77).5 (LL.q x77).6 (LL.q x77).7 (LL.q
x77).8) x89 ∧ PW (PA.mk (SA.mk (PA.s1 (LL.q x77)).1 (PA.s1 (LL.q x77)).2 (PA.s1 (LL.q x77)).3 (PA.s1 (LL.q x77)).4 (PA.s1 (LL.q x77)).5) (SA.mk (PA.s2 (LL.q x77)).1 (PA.s2 (LL.q
x77)).2 (PA.s2 (LL.q x77)).3 (PA.s2 (LL.q x77)).4 (PA.s2 (LL.q x77)).5) (SA.mk x87.1 (nat_lit 0) (PA.s3 (LL.q x77)).3 x87.2 x87.3) (LL.q x77).4 (LL.q x77).5 (LL.q x77).6 (LL.q
x77).7 (LL.q x77).8) x89) ∧ ∃ (x90 : PX), PH (PA.mk (SA.mk (PA.s1 (LL.w x77)).1 (PA.s1 (LL.w x77)).2 (PA.s1 (LL.w x77)).3 (PA.s1 (LL.w x77)).4 (PA.s1 (LL.w x77)).5) (SA.mk (PA.s2
(LL.w x77)).1 (PA.s2 (LL.w x77)).2 (PA.s2 (LL.w x77)).3 (PA.s2 (LL.w x77)).4 (PA.s2 (LL.w x77)).5) (SA.mk (PA.s3 (LL.w x77)).1 (PA.s3 (LL.w x77)).2 (PA.s3 (LL.w x77)).3 (PA.s3
(LL.w x77)).4 (PA.s3 (LL.w x77)).5) (LL.w x77).4 (LL.w x77).5 (LL.w x77).6 (LL.w x77).7 (LL.w x77).8) x90 ∧ PW (PA.mk (SA.mk (PA.s1 (LL.w x77)).1 (PA.s1 (LL.w x77)).2 (PA.s1 (LL.w
x77)).3 (PA.s1 (LL.w x77)).4 (PA.s1 (LL.w x77)).5) (SA.mk (PA.s2 (LL.w x77)).1 (PA.s2 (LL.w x77)).2 (PA.s2 (LL.w x77)).3 (PA.s2 (LL.w x77)).4 (PA.s2 (LL.w x77)).5) (SA.mk (PA.s3
(LL.w x77)).1 (PA.s3 (LL.w x77)).2 (PA.s3 (LL.w x77)).3 (PA.s3 (LL.w x77)).4 (PA.s3 (LL.w x77)).5) (LL.w x77).4 (LL.w x77).5 (LL.w x77).6 (LL.w x77).7 (LL.w x77).8) x90) ∧ ((PA.s1
(LL.q x77)).3 ≤ (70 : Nat) ∧ (PA.s2 (LL.q x77)).3 ≤ (10 : Nat) ∧ (PA.s3 (LL.q x77)).3 ≤ (10 : Nat)) ∧ (PA.s1 (LL.w x77)).3 ≤ (70 : Nat) ∧ (PA.s2 (LL.w x77)).3 ≤ (10 : Nat) ∧ (PA.s3
(LL.w x77)).3 ≤ (10 : Nat)) ∧ (((((PA.s1 (LL.q x77)).1 = (PA.s1 (LL.q x77)).1 ∧ (PA.s1 (LL.q x77)).2 = (PA.s1 (LL.q x77)).2 ∧ (PA.s1 (LL.q x77)).3 = (PA.s1 (LL.q x77)).3 ∧ (PA.s1
(LL.q x77)).4 = (PA.s1 (LL.q x77)).4) ∧ ((PA.s2 (LL.q x77)).1 = (PA.s2 (LL.q x77)).1 ∧ (PA.s2 (LL.q x77)).2 = (PA.s2 (LL.q x77)).2 ∧ (PA.s2 (LL.q x77)).3 = (PA.s2 (LL.q x77)).3 ∧
(PA.s2 (LL.q x77)).4 = (PA.s2 (LL.q x77)).4) ∧ (x87.1 = x87.1 ∧ nat_lit 0 = (0 : Nat) ∧ (PA.s3 (LL.q x77)).3 = (PA.s3 (LL.q x77)).3 ∧ x87.2 = x87.2) ∧ (LL.q x77).4 = (LL.q x77).4 ∧
(LL.q x77).5 = (LL.q x77).5 ∧ (LL.q x77).6 = (LL.q x77).6 ∧ (LL.q x77).7 = (LL.q x77).7 ∧ (LL.q x77).8 = (LL.q x77).8 ∧ True) ∧ (((PA.s1 (LL.w x77)).1 = (PA.s1 (LL.w x77)).1 ∧
(PA.s1 (LL.w x77)).2 = (PA.s1 (LL.w x77)).2 ∧ (PA.s1 (LL.w x77)).3 = (PA.s1 (LL.w x77)).3 ∧ (PA.s1 (LL.w x77)).4 = (PA.s1 (LL.w x77)).4) ∧ ((PA.s2 (LL.w x77)).1 = (PA.s2 (LL.w
x77)).1 ∧ (PA.s2 (LL.w x77)).2 = (PA.s2 (LL.w x77)).2 ∧ (PA.s2 (LL.w x77)).3 = (PA.s2 (LL.w x77)).3 ∧ (PA.s2 (LL.w x77)).4 = (PA.s2 (LL.w x77)).4) ∧ ((PA.s3 (LL.w x77)).1 = (PA.s3
(LL.w x77)).1 ∧ (PA.s3 (LL.w x77)).2 = (PA.s3 (LL.w x77)).2 ∧ (PA.s3 (LL.w x77)).3 = (PA.s3 (LL.w x77)).3 ∧ (PA.s3 (LL.w x77)).4 = (PA.s3 (LL.w x77)).4) ∧ (LL.w x77).4 = (LL.w
x77).4 ∧ (LL.w x77).5 = (LL.w x77).5 ∧ (LL.w x77).6 = (LL.w x77).6 ∧ (LL.w x77).7 = (LL.w x77).7 ∧ (LL.w x77).8 = (LL.w x77).8 ∧ True) ∧ True) ∧ (True ∧ FlatL (PA.s1 (LL.q x77)).5
∧ (PA.s1 (LL.q x77)).5 = (PA.s1 (LL.q x77)).5) ∧ (True ∧ FlatL (PA.s2 (LL.q x77)).5 ∧ (PA.s2 (LL.q x77)).5 = (PA.s2 (LL.q x77)).5) ∧ (True ∧ FlatL x87.3 ∧ x87.3 = x87.3) ∧ (True ∧
FlatL (PA.s1 (LL.w x77)).5 ∧ (PA.s1 (LL.w x77)).5 = (PA.s1 (LL.w x77)).5) ∧ (True ∧ FlatL (PA.s2 (LL.w x77)).5 ∧ (PA.s2 (LL.w x77)).5 = (PA.s2 (LL.w x77)).5) ∧ (True ∧ FlatL (PA.s3
(LL.w x77)).5 ∧ (PA.s3 (LL.w x77)).5 = (PA.s3 (LL.w x77)).5) ∧ True) ∧ (∀ (x91 : BL), (∀ (x92 x93 : PX), PH (PA.mk (SA.mk (PA.s1 (LL.q x77)).1 (PA.s1 (LL.q x77)).2 (PA.s1 (LL.q
x77)).3 (PA.s1 (LL.q x77)).4 (PA.s1 (LL.q x77)).5) (SA.mk (PA.s2 (LL.q x77)).1 (PA.s2 (LL.q x77)).2 (PA.s2 (LL.q x77)).3 (PA.s2 (LL.q x77)).4 (PA.s2 (LL.q x77)).5) (SA.mk x87.1
(nat_lit 0) (PA.s3 (LL.q x77)).3 x87.2 x87.3) (LL.q x77).4 (LL.q x77).5 (LL.q x77).6 (LL.q x77).7 (LL.q x77).8) x92 → PH (PA.mk (SA.mk (PA.s1 (LL.w x77)).1 (PA.s1 (LL.w x77)).2
(PA.s1 (LL.w x77)).3 (PA.s1 (LL.w x77)).4 (PA.s1 (LL.w x77)).5) (SA.mk (PA.s2 (LL.w x77)).1 (PA.s2 (LL.w x77)).2 (PA.s2 (LL.w x77)).3 (PA.s2 (LL.w x77)).4 (PA.s2 (LL.w x77)).5)
(SA.mk (PA.s3 (LL.w x77)).1 (PA.s3 (LL.w x77)).2 (PA.s3 (LL.w x77)).3 (PA.s3 (LL.w x77)).4 (PA.s3 (LL.w x77)).5) (LL.w x77).4 (LL.w x77).5 (LL.w x77).6 (LL.w x77).7 (LL.w x77).8)
x93 → (x91.1 = Bool.true ↔ enc (PA.mk (SA.mk (PA.s1 (LL.q x77)).1 (PA.s1 (LL.q x77)).2 (PA.s1 (LL.q x77)).3 (PA.s1 (LL.q x77)).4 (PA.s1 (LL.q x77)).5) (SA.mk (PA.s2 (LL.q x77)).1
(PA.s2 (LL.q x77)).2 (PA.s2 (LL.q x77)).3 (PA.s2 (LL.q x77)).4 (PA.s2 (LL.q x77)).5) (SA.mk x87.1 (nat_lit 0) (PA.s3 (LL.q x77)).3 x87.2 x87.3) (LL.q x77).4 (LL.q x77).5 (LL.q
x77).6 (LL.q x77).7 (LL.q x77).8) x92 = enc (PA.mk (SA.mk (PA.s1 (LL.w x77)).1 (PA.s1 (LL.w x77)).2 (PA.s1 (LL.w x77)).3 (PA.s1 (LL.w x77)).4 (PA.s1 (LL.w x77)).5) (SA.mk (PA.s2
(LL.w x77)).1 (PA.s2 (LL.w x77)).2 (PA.s2 (LL.w x77)).3 (PA.s2 (LL.w x77)).4 (PA.s2 (LL.w x77)).5) (SA.mk (PA.s3 (LL.w x77)).1 (PA.s3 (LL.w x77)).2 (PA.s3 (LL.w x77)).3 (PA.s3
(LL.w x77)).4 (PA.s3 (LL.w x77)).5) (LL.w x77).4 (LL.w x77).5 (LL.w x77).6 (LL.w x77).7 (LL.w x77).8) x93)) → (x91.1 = Bool.true → (True ∧ True ∧ True ∧ (W_G_apart_0 x77 =
W_G_apart_0 x77 ∧ True) ∧ True ∧ True ∧ True) ∧ ∀ (x94 : Int), x94 = IntKind.wrap IntKind.i64 a.1 → ∀ (x95 : Int), x95 = IntKind.wrap IntKind.i64 (x94 + (1 : Int)) → (True ∧ (∃
(x96 : PX), PH (PA.mk (SA.mk (PA.s1 (LL.q x77)).1 (PA.s1 (LL.q x77)).2 (PA.s1 (LL.q x77)).3 (PA.s1 (LL.q x77)).4 (PA.s1 (LL.q x77)).5) (SA.mk (PA.s2 (LL.q x77)).1 (PA.s2 (LL.q
x77)).2 (PA.s2 (LL.q x77)).3 (PA.s2 (LL.q x77)).4 (PA.s2 (LL.q x77)).5) (SA.mk (PA.s3 (LL.q x77)).1 (PA.s3 (LL.q x77)).2 (PA.s3 (LL.q x77)).3 (PA.s3 (LL.q x77)).4 (PA.s3 (LL.q
x77)).5) (LL.q x77).4 (LL.q x77).5 (LL.q x77).6 (LL.q x77).7 (LL.q x77).8) x96) ∧ (wthn x95 (Int.ofNat (3 : Nat)) (Int.ofNat (4 : Nat)) = (0 : Int) ∧ a.1 < x95) ∧ (PA.s1 (LL.q
x77)).3 ≤ (100 : Nat) ∧ (PA.s2 (LL.q x77)).3 ≤ (100 : Nat) ∧ (PA.s3 (LL.q x77)).3 ≤ (100 : Nat)) ∧ (((a.1 = a.1 ∧ True ∧ True ∧ True ∧ True ∧ True ∧ True ∧ True ∧ True ∧ True ∧
True ∧ True) ∧ x95 = x95 ∧ (((PA.s1 (LL.q x77)).1 = (PA.s1 (LL.q x77)).1 ∧ (PA.s1 (LL.q x77)).2 = (PA.s1 (LL.q x77)).2 ∧ (PA.s1 (LL.q x77)).3 = (PA.s1 (LL.q x77)).3 ∧ (PA.s1 (LL.q
x77)).4 = (PA.s1 (LL.q x77)).4) ∧ ((PA.s2 (LL.q x77)).1 = (PA.s2 (LL.q x77)).1 ∧ (PA.s2 (LL.q x77)).2 = (PA.s2 (LL.q x77)).2 ∧ (PA.s2 (LL.q x77)).3 = (PA.s2 (LL.q x77)).3 ∧ (PA.s2
(LL.q x77)).4 = (PA.s2 (LL.q x77)).4) ∧ ((PA.s3 (LL.q x77)).1 = (PA.s3 (LL.q x77)).1 ∧ (PA.s3 (LL.q x77)).2 = (PA.s3 (LL.q x77)).2 ∧ (PA.s3 (LL.q x77)).3 = (PA.s3 (LL.q x77)).3 ∧
(PA.s3 (LL.q x77)).4 = (PA.s3 (LL.q x77)).4) ∧ (LL.q x77).4 = (LL.q x77).4 ∧ (LL.q x77).5 = (LL.q x77).5 ∧ (LL.q x77).6 = (LL.q x77).6 ∧ (LL.q x77).7 = (LL.q x77).7 ∧ (LL.q x77).8
= (LL.q x77).8 ∧ True) ∧ Int.ofNat (3 : Nat) = (3 : Int) ∧ Int.ofNat (4 : Nat) = (4 : Int) ∧ True) ∧ (True ∧ FlatL (PA.s1 (LL.q x77)).5 ∧ (PA.s1 (LL.q x77)).5 = (PA.s1 (LL.q
x77)).5) ∧ (True ∧ FlatL (PA.s2 (LL.q x77)).5 ∧ (PA.s2 (LL.q x77)).5 = (PA.s2 (LL.q x77)).5) ∧ (True ∧ FlatL (PA.s3 (LL.q x77)).5 ∧ (PA.s3 (LL.q x77)).5 = (PA.s3 (LL.q x77)).5) ∧
True) ∧ (∀ (x97 : PB), (∀ (x98 : PX), PH (PA.mk (SA.mk (PA.s1 (LL.q x77)).1 (PA.s1 (LL.q x77)).2 (PA.s1 (LL.q x77)).3 (PA.s1 (LL.q x77)).4 (PA.s1 (LL.q x77)).5) (SA.mk (PA.s2 (LL.q
x77)).1 (PA.s2 (LL.q x77)).2 (PA.s2 (LL.q x77)).3 (PA.s2 (LL.q x77)).4 (PA.s2 (LL.q x77)).5) (SA.mk (PA.s3 (LL.q x77)).1 (PA.s3 (LL.q x77)).2 (PA.s3 (LL.q x77)).3 (PA.s3 (LL.q
x77)).4 (PA.s3 (LL.q x77)).5) (LL.q x77).4 (LL.q x77).5 (LL.q x77).6 (LL.q x77).7 (LL.q x77).8) x98 → PH (PA.mk (SA.mk (PA.s1 (LL.q x77)).1 (0 : Nat) (PA.s1 (LL.q x77)).3 (PB.b1
x97).1 (PB.b1 x97).2) (SA.mk (PA.s2 (LL.q x77)).1 (0 : Nat) (PA.s2 (LL.q x77)).3 (PB.b2 x97).1 (PB.b2 x97).2) (SA.mk (PA.s3 (LL.q x77)).1 (0 : Nat) (PA.s3 (LL.q x77)).3 (PB.b3
x97).1 (PB.b3 x97).2) (LL.q x77).4 (LL.q x77).5 (LL.q x77).6 (LL.q x77).7 (LL.q x77).8) x98) → ∃ (x99 : LL), (((0 : Int) ≤ x99.1 ∧ x99.1 ≤ ↑x99.3) ∧ (x99.3 ≤ (70 : Nat) ∧ x99.3 ≤
x99.4) ∧ Ir x99.5 x99.3 ∧ Twin x99.7 x99.6) ∧ (((0 : Nat) = (0 : Nat) ∧ (0 : Nat) = (0 : Nat) ∧ (0 : Nat) = (0 : Nat) ∧ (0 : Int) = (0 : Int) ∧ x99.1 = (0 : Int) ∧ True) ∧ ((True ∧
True ∧ True ∧ (x99.2 = (PA.s1 (LL.q x77)).1 ∧ (0 : Nat) = (0 : Nat) ∧ x99.3 = (PA.s1 (LL.q x77)).3 ∧ x99.4 = (PB.b1 x97).1) ∧ True ∧ True ∧ True ∧ True ∧ True ∧ True ∧ True ∧ True
∧ True) ∧ (x99.4 = (PB.b1 x97).1 ∧ FlatL x99.5 ∧ x99.5 = (PB.b1 x97).2) ∧ (True ∧ ((PA.s1 (LL.w x99)).1 = (PA.s1 (LL.w x77)).1 ∧ (PA.s1 (LL.w x99)).2 = (PA.s1 (LL.w x77)).2 ∧
(PA.s1 (LL.w x99)).3 = (PA.s1 (LL.w x77)).3 ∧ (PA.s1 (LL.w x99)).4 = (PA.s1 (LL.w x77)).4) ∧ ((PA.s2 (LL.w x99)).1 = (PA.s2 (LL.w x77)).1 ∧ (PA.s2 (LL.w x99)).2 = (PA.s2 (LL.w
x77)).2 ∧ (PA.s2 (LL.w x99)).3 = (PA.s2 (LL.w x77)).3 ∧ (PA.s2 (LL.w x99)).4 = (PA.s2 (LL.w x77)).4) ∧ ((PA.s3 (LL.w x99)).1 = (PA.s3 (LL.w x77)).1 ∧ (PA.s3 (LL.w x99)).2 = (PA.s3
(LL.w x77)).2 ∧ (PA.s3 (LL.w x99)).3 = (PA.s3 (LL.w x77)).3 ∧ (PA.s3 (LL.w x99)).4 = (PA.s3 (LL.w x77)).4) ∧ (LL.w x99).4 = (LL.w x77).4 ∧ (LL.w x99).5 = (LL.w x77).5 ∧ (LL.w
x99).6 = (LL.w x77).6 ∧ (LL.w x99).7 = (LL.w x77).7 ∧ (LL.w x99).8 = (LL.w x77).8 ∧ True) ∧ (True ∧ a.1 = a.1 ∧ a.1 = a.1 ∧ ((PA.s1 (LL.q x99)).1 = (PA.s1 (LL.q x77)).1 ∧ (PA.s1
(LL.q x99)).2 = (PA.s1 (LL.q x77)).2 ∧ (PA.s1 (LL.q x99)).3 = (PA.s1 (LL.q x77)).3 ∧ (PA.s1 (LL.q x99)).4 = (PA.s1 (LL.q x77)).4) ∧ ((PA.s2 (LL.q x99)).1 = (PA.s2 (LL.q x77)).1 ∧
(PA.s2 (LL.q x99)).2 = (PA.s2 (LL.q x77)).2 ∧ (PA.s2 (LL.q x99)).3 = (PA.s2 (LL.q x77)).3 ∧ (PA.s2 (LL.q x99)).4 = (PA.s2 (LL.q x77)).4) ∧ ((PA.s3 (LL.q x99)).1 = (PA.s3 (LL.q
x77)).1 ∧ (PA.s3 (LL.q x99)).2 = (PA.s3 (LL.q x77)).2 ∧ (PA.s3 (LL.q x99)).3 = (PA.s3 (LL.q x77)).3 ∧ (PA.s3 (LL.q x99)).4 = (PA.s3 (LL.q x77)).4) ∧ (LL.q x99).4 = (LL.q x77).4 ∧
(LL.q x99).5 = (LL.q x77).5 ∧ (LL.q x99).6 = (LL.q x77).6 ∧ (LL.q x99).7 = (LL.q x77).7 ∧ (LL.q x99).8 = (LL.q x77).8 ∧ x99.8 = x77.8 ∧ True) ∧ (True ∧ FlatL (PA.s1 (LL.w x99)).5 ∧
(PA.s1 (LL.w x99)).5 = (PA.s1 (LL.w x77)).5) ∧ (True ∧ FlatL (PA.s2 (LL.w x99)).5 ∧ (PA.s2 (LL.w x99)).5 = (PA.s2 (LL.w x77)).5) ∧ (True ∧ FlatL (PA.s3 (LL.w x99)).5 ∧ (PA.s3 (LL.w
x99)).5 = (PA.s3 (LL.w x77)).5) ∧ (True ∧ FlatL (PA.s1 (LL.q x99)).5 ∧ (PA.s1 (LL.q x99)).5 = (PA.s1 (LL.q x77)).5) ∧ (True ∧ FlatL (PA.s2 (LL.q x99)).5 ∧ (PA.s2 (LL.q x99)).5 =
(PA.s2 (LL.q x77)).5) ∧ (True ∧ FlatL (PA.s3 (LL.q x99)).5 ∧ (PA.s3 (LL.q x99)).5 = (PA.s3 (LL.q x77)).5) ∧ (True ∧ FlatL cells0 ∧ cells0 = cells0) ∧ (True ∧ FlatL cells1 ∧ cells1
= cells1) ∧ (True ∧ FlatL cells2 ∧ cells2 = cells2) ∧ (True ∧ FlatL cells4 ∧ cells4 = cells4) ∧ (True ∧ FlatL cells5 ∧ cells5 = cells5) ∧ (True ∧ FlatL cells6 ∧ cells6 = cells6) ∧
(True ∧ FlatL cells8 ∧ cells8 = cells8) ∧ (True ∧ FlatL cells9 ∧ cells9 = cells9) ∧ (True ∧ FlatL cells10 ∧ cells10 = cells10) ∧ True) ∧ True) ∧ ∀ (x100 : LL), ((0 : Int) ≤ x100.1
∧ x100.1 ≤ ↑x100.3) ∧ (x100.3 ≤ (70 : Nat) ∧ x100.3 ≤ x100.4) ∧ Ir x100.5 x100.3 ∧ Twin x100.7 x100.6 → ∀ (x101 : Int), x101 = ↑x100.3 → (x100.1 < x101 → ((0 : Int) ≤ x100.1 ∧
x100.1 < ↑x100.3) ∧ ∀ (x102 : Nat), x102 = (0 : Nat) + Int.toNat x100.1 * (1 : Nat) → ∃ (x103 : Int), Rd x100.5 (Nat.add x102 (0 : Nat)) (Value.int IntKind.i32 x103) ∧ ∀ (x104 :
Int), x104 = IntKind.wrap IntKind.i32 (x103 + (1 : Int)) → ((0 : Int) ≤ x100.1 ∧ x100.1 < ↑x100.3) ∧ ∀ (x105 : Nat), x105 = (0 : Nat) + Int.toNat x100.1 * (1 : Nat) → x105 + (1 :
Nat) ≤ List.length x100.5 ∧ ∀ (x106 : List Value), x106 = lput x100.5 x105 [Value.iface (1000000007 : Nat) (Value.int IntKind.i32 x104)] → ∀ (x107 : Int), x107 = IntKind.wrap
IntKind.i64 (x100.1 + (1 : Int)) → ∃ (x108 : LL), (((0 : Int) ≤ x108.1 ∧ x108.1 ≤ ↑x108.3) ∧ (x108.3 ≤ (70 : Nat) ∧ x108.3 ≤ x108.4) ∧ Ir x108.5 x108.3 ∧ Twin x108.7 x108.6) ∧
Int.toNat (↑x108.3 - x108.1) < Int.toNat (↑x100.3 - x100.1) ∧ ((0 : Nat) = (0 : Nat) ∧ (0 : Nat) = (0 : Nat) ∧ (0 : Nat) = (0 : Nat) ∧ (0 : Int) = (0 : Int) ∧ x108.1 = x107 ∧ True)
∧ ((True ∧ True ∧ True ∧ (x108.2 = x100.2 ∧ (0 : Nat) = (0 : Nat) ∧ x108.3 = x100.3 ∧ x108.4 = x100.4) ∧ True ∧ True ∧ True ∧ True ∧ True ∧ True ∧ True ∧ True ∧ True) ∧ (x108.4 =
x100.4 ∧ FlatL x108.5 ∧ x108.5 = x106) ∧ (True ∧ ((PA.s1 (LL.w x108)).1 = (PA.s1 (LL.w x100)).1 ∧ (PA.s1 (LL.w x108)).2 = (PA.s1 (LL.w x100)).2 ∧ (PA.s1 (LL.w x108)).3 = (PA.s1
(LL.w x100)).3 ∧ (PA.s1 (LL.w x108)).4 = (PA.s1 (LL.w x100)).4) ∧ ((PA.s2 (LL.w x108)).1 = (PA.s2 (LL.w x100)).1 ∧ (PA.s2 (LL.w x108)).2 = (PA.s2 (LL.w x100)).2 ∧ (PA.s2 (LL.w
x108)).3 = (PA.s2 (LL.w x100)).3 ∧ (PA.s2 (LL.w x108)).4 = (PA.s2 (LL.w x100)).4) ∧ ((PA.s3 (LL.w x108)).1 = (PA.s3 (LL.w x100)).1 ∧ (PA.s3 (LL.w x108)).2 = (PA.s3 (LL.w x100)).2 ∧
(PA.s3 (LL.w x108)).3 = (PA.s3 (LL.w x100)).3 ∧ (PA.s3 (LL.w x108)).4 = (PA.s3 (LL.w x100)).4) ∧ (LL.w x108).4 = (LL.w x100).4 ∧ (LL.w x108).5 = (LL.w x100).5 ∧ (LL.w x108).6 =
(LL.w x100).6 ∧ (LL.w x108).7 = (LL.w x100).7 ∧ (LL.w x108).8 = (LL.w x100).8 ∧ True) ∧ (True ∧ a.1 = a.1 ∧ a.1 = a.1 ∧ ((PA.s1 (LL.q x108)).1 = (PA.s1 (LL.q x100)).1 ∧ (PA.s1
(LL.q x108)).2 = (PA.s1 (LL.q x100)).2 ∧ (PA.s1 (LL.q x108)).3 = (PA.s1 (LL.q x100)).3 ∧ (PA.s1 (LL.q x108)).4 = (PA.s1 (LL.q x100)).4) ∧ ((PA.s2 (LL.q x108)).1 = (PA.s2 (LL.q
x100)).1 ∧ (PA.s2 (LL.q x108)).2 = (PA.s2 (LL.q x100)).2 ∧ (PA.s2 (LL.q x108)).3 = (PA.s2 (LL.q x100)).3 ∧ (PA.s2 (LL.q x108)).4 = (PA.s2 (LL.q x100)).4) ∧ ((PA.s3 (LL.q x108)).1 =
(PA.s3 (LL.q x100)).1 ∧ (PA.s3 (LL.q x108)).2 = (PA.s3 (LL.q x100)).2 ∧ (PA.s3 (LL.q x108)).3 = (PA.s3 (LL.q x100)).3 ∧ (PA.s3 (LL.q x108)).4 = (PA.s3 (LL.q x100)).4) ∧ (LL.q
x108).4 = (LL.q x100).4 ∧ (LL.q x108).5 = (LL.q x100).5 ∧ (LL.q x108).6 = (LL.q x100).6 ∧ (LL.q x108).7 = (LL.q x100).7 ∧ (LL.q x108).8 = (LL.q x100).8 ∧ x108.8 = x100.8 ∧ True) ∧
(True ∧ FlatL (PA.s1 (LL.w x108)).5 ∧ (PA.s1 (LL.w x108)).5 = (PA.s1 (LL.w x100)).5) ∧ (True ∧ FlatL (PA.s2 (LL.w x108)).5 ∧ (PA.s2 (LL.w x108)).5 = (PA.s2 (LL.w x100)).5) ∧ (True
∧ FlatL (PA.s3 (LL.w x108)).5 ∧ (PA.s3 (LL.w x108)).5 = (PA.s3 (LL.w x100)).5) ∧ (True ∧ FlatL (PA.s1 (LL.q x108)).5 ∧ (PA.s1 (LL.q x108)).5 = (PA.s1 (LL.q x100)).5) ∧ (True ∧
FlatL (PA.s2 (LL.q x108)).5 ∧ (PA.s2 (LL.q x108)).5 = (PA.s2 (LL.q x100)).5) ∧ (True ∧ FlatL (PA.s3 (LL.q x108)).5 ∧ (PA.s3 (LL.q x108)).5 = (PA.s3 (LL.q x100)).5) ∧ (True ∧ FlatL
cells0 ∧ cells0 = cells0) ∧ (True ∧ FlatL cells1 ∧ cells1 = cells1) ∧ (True ∧ FlatL cells2 ∧ cells2 = cells2) ∧ (True ∧ FlatL cells4 ∧ cells4 = cells4) ∧ (True ∧ FlatL cells5 ∧
cells5 = cells5) ∧ (True ∧ FlatL cells6 ∧ cells6 = cells6) ∧ (True ∧ FlatL cells8 ∧ cells8 = cells8) ∧ (True ∧ FlatL cells9 ∧ cells9 = cells9) ∧ (True ∧ FlatL cells10 ∧ cells10 =
cells10) ∧ True) ∧ True) ∧ (¬x100.1 < x101 → (True ∧ True) ∧ (True ∧ (True ∧ FlatL cells0 ∧ cells0 = cells0) ∧ (True ∧ FlatL cells1 ∧ cells1 = cells1) ∧ (True ∧ FlatL cells2 ∧
cells2 = cells2) ∧ (True ∧ FlatL cells4 ∧ cells4 = cells4) ∧ (True ∧ FlatL cells5 ∧ cells5 = cells5) ∧ (True ∧ FlatL cells6 ∧ cells6 = cells6) ∧ (True ∧ FlatL cells8 ∧ cells8 =
cells8) ∧ (True ∧ FlatL cells9 ∧ cells9 = cells9) ∧ (True ∧ FlatL cells10 ∧ cells10 = cells10) ∧ True) ∧ (∀ (x109 : Unit), True → (True ∧ (∃ (x110 : PX), PH (PA.mk (SA.mk (PA.s1
(LL.q x100)).1 (PA.s1 (LL.q x100)).2 (PA.s1 (LL.q x100)).3 (PA.s1 (LL.q x100)).4 (PA.s1 (LL.q x100)).5) (SA.mk (PA.s2 (LL.q x100)).1 (PA.s2 (LL.q x100)).2 (PA.s2 (LL.q x100)).3
(PA.s2 (LL.q x100)).4 (PA.s2 (LL.q x100)).5) (SA.mk (PA.s3 (LL.q x100)).1 (PA.s3 (LL.q x100)).2 (PA.s3 (LL.q x100)).3 (PA.s3 (LL.q x100)).4 (PA.s3 (LL.q x100)).5) (LL.q x100).4
(LL.q x100).5 (LL.q x100).6 (LL.q x100).7 (LL.q x100).8) x110) ∧ (PA.s3 (LL.q x100)).3 ≤ (100 : Nat)) ∧ (((((PA.s1 (LL.q x100)).1 = (PA.s1 (LL.q x100)).1 ∧ (PA.s1 (LL.q x100)).2 =
(PA.s1 (LL.q x100)).2 ∧ (PA.s1 (LL.q x100)).3 = (PA.s1 (LL.q x100)).3 ∧ (PA.s1 (LL.q x100)).4 = (PA.s1 (LL.q x100)).4) ∧ ((PA.s2 (LL.q x100)).1 = (PA.s2 (LL.q x100)).1 ∧ (PA.s2
(LL.q x100)).2 = (PA.s2 (LL.q x100)).2 ∧ (PA.s2 (LL.q x100)).3 = (PA.s2 (LL.q x100)).3 ∧ (PA.s2 (LL.q x100)).4 = (PA.s2 (LL.q x100)).4) ∧ ((PA.s3 (LL.q x100)).1 = (PA.s3 (LL.q
x100)).1 ∧ (PA.s3 (LL.q x100)).2 = (PA.s3 (LL.q x100)).2 ∧ (PA.s3 (LL.q x100)).3 = (PA.s3 (LL.q x100)).3 ∧ (PA.s3 (LL.q x100)).4 = (PA.s3 (LL.q x100)).4) ∧ (LL.q x100).4 = (LL.q
x100).4 ∧ (LL.q x100).5 = (LL.q x100).5 ∧ (LL.q x100).6 = (LL.q x100).6 ∧ (LL.q x100).7 = (LL.q x100).7 ∧ (LL.q x100).8 = (LL.q x100).8 ∧ True) ∧ True) ∧ (True ∧ FlatL (PA.s1 (LL.q
x100)).5 ∧ (PA.s1 (LL.q x100)).5 = (PA.s1 (LL.q x100)).5) ∧ (True ∧ FlatL (PA.s2 (LL.q x100)).5 ∧ (PA.s2 (LL.q x100)).5 = (PA.s2 (LL.q x100)).5) ∧ (True ∧ FlatL (PA.s3 (LL.q
x100)).5 ∧ (PA.s3 (LL.q x100)).5 = (PA.s3 (LL.q x100)).5) ∧ True) ∧ (∀ (x111 : RN), (∀ (x112 : List Int), Sli (Value.int IntKind.u8) (8 : Nat) (PA.s3 (LL.q x100)).1 (PA.s3 (LL.q
x100)).2 (PA.s3 (LL.q x100)).3 (PA.s3 (LL.q x100)).4 (PA.s3 (LL.q x100)).5 x112 → Sli (Value.int IntKind.u8) (8 : Nat) x111.1 (0 : Nat) (PA.s3 (LL.q x100)).3 x111.2 x111.3 x112) →
(True ∧ ((∃ (x113 : PX), PH (PA.mk (SA.mk (PA.s1 (LL.q x100)).1 (PA.s1 (LL.q x100)).2 (PA.s1 (LL.q x100)).3 (PA.s1 (LL.q x100)).4 (PA.s1 (LL.q x100)).5) (SA.mk (PA.s2 (LL.q
x100)).1 (PA.s2 (LL.q x100)).2 (PA.s2 (LL.q x100)).3 (PA.s2 (LL.q x100)).4 (PA.s2 (LL.q x100)).5) (SA.mk x111.1 (nat_lit 0) (PA.s3 (LL.q x100)).3 x111.2 x111.3) (LL.q x100).4 (LL.q
x100).5 (LL.q x100).6 (LL.q x100).7 (LL.q x100).8) x113 ∧ PW (PA.mk (SA.mk (PA.s1 (LL.q x100)).1 (PA.s1 (LL.q x100)).2 (PA.s1 (LL.q x100)).3 (PA.s1 (LL.q x100)).4 (PA.s1 (LL.q
x100)).5) (SA.mk (PA.s2 (LL.q x100)).1 (PA.s2 (LL.q x100)).2 (PA.s2 (LL.q x100)).3 (PA.s2 (LL.q x100)).4 (PA.s2 (LL.q x100)).5) (SA.mk x111.1 (nat_lit 0) (PA.s3 (LL.q x100)).3
x111.2 x111.3) (LL.q x100).4 (LL.q x100).5 (LL.q x100).6 (LL.q x100).7 (LL.q x100).8) x113) ∧ ∃ (x114 : PX), PH (PA.mk (SA.mk (PA.s1 (LL.w x100)).1 (PA.s1 (LL.w x100)).2 (PA.s1
(LL.w x100)).3 (PA.s1 (LL.w x100)).4 (PA.s1 (LL.w x100)).5) (SA.mk (PA.s2 (LL.w x100)).1 (PA.s2 (LL.w x100)).2 (PA.s2 (LL.w x100)).3 (PA.s2 (LL.w x100)).4 (PA.s2 (LL.w x100)).5)
(SA.mk (PA.s3 (LL.w x100)).1 (PA.s3 (LL.w x100)).2 (PA.s3 (LL.w x100)).3 (PA.s3 (LL.w x100)).4 (PA.s3 (LL.w x100)).5) (LL.w x100).4 (LL.w x100).5 (LL.w x100).6 (LL.w x100).7 (LL.w
x100).8) x114 ∧ PW (PA.mk (SA.mk (PA.s1 (LL.w x100)).1 (PA.s1 (LL.w x100)).2 (PA.s1 (LL.w x100)).3 (PA.s1 (LL.w x100)).4 (PA.s1 (LL.w x100)).5) (SA.mk (PA.s2 (LL.w x100)).1 (PA.s2
(LL.w x100)).2 (PA.s2 (LL.w x100)).3 (PA.s2 (LL.w x100)).4 (PA.s2 (LL.w x100)).5) (SA.mk (PA.s3 (LL.w x100)).1 (PA.s3 (LL.w x100)).2 (PA.s3 (LL.w x100)).3 (PA.s3 (LL.w x100)).4
(PA.s3 (LL.w x100)).5) (LL.w x100).4 (LL.w x100).5 (LL.w x100).6 (LL.w x100).7 (LL.w x100).8) x114) ∧ ((PA.s1 (LL.q x100)).3 ≤ (70 : Nat) ∧ (PA.s2 (LL.q x100)).3 ≤ (10 : Nat) ∧
(PA.s3 (LL.q x100)).3 ≤ (10 : Nat)) ∧ (PA.s1 (LL.w x100)).3 ≤ (70 : Nat) ∧ (PA.s2 (LL.w x100)).3 ≤ (10 : Nat) ∧ (PA.s3 (LL.w x100)).3 ≤ (10 : Nat)) ∧ (((((PA.s1 (LL.q x100)).1 =
(PA.s1 (LL.q x100)).1 ∧ (PA.s1 (LL.q x100)).2 = (PA.s1 (LL.q x100)).2 ∧ (PA.s1 (LL.q x100)).3 = (PA.s1 (LL.q x100)).3 ∧ (PA.s1 (LL.q x100)).4 = (PA.s1 (LL.q x100)).4) ∧ ((PA.s2
(LL.q x100)).1 = (PA.s2 (LL.q x100)).1 ∧ (PA.s2 (LL.q x100)).2 = (PA.s2 (LL.q x100)).2 ∧ (PA.s2 (LL.q x100)).3 = (PA.s2 (LL.q x100)).3 ∧ (PA.s2 (LL.q x100)).4 = (PA.s2 (LL.q
x100)).4) ∧ (x111.1 = x111.1 ∧ nat_lit 0 = (0 : Nat) ∧ (PA.s3 (LL.q x100)).3 = (PA.s3 (LL.q x100)).3 ∧ x111.2 = x111.2) ∧ (LL.q x100).4 = (LL.q x100).4 ∧ (LL.q x100).5 = (LL.q
x100).5 ∧ (LL.q x100).6 = (LL.q x100).6 ∧ (LL.q x100).7 = (LL.q x100).7 ∧ (LL.q x100).8 = (LL.q x100).8 ∧ True) ∧ (((PA.s1 (LL.w x100)).1 = (PA.s1 (LL.w x100)).1 ∧ (PA.s1 (LL.w
x100)).2 = (PA.s1 (LL.w x100)).2 ∧ (PA.s1 (LL.w x100)).3 = (PA.s1 (LL.w x100)).3 ∧ (PA.s1 (LL.w x100)).4 = (PA.s1 (LL.w x100)).4) ∧ ((PA.s2 (LL.w x100)).1 = (PA.s2 (LL.w x100)).1 ∧
(PA.s2 (LL.w x100)).2 = (PA.s2 (LL.w x100)).2 ∧ (PA.s2 (LL.w x100)).3 = (PA.s2 (LL.w x100)).3 ∧ (PA.s2 (LL.w x100)).4 = (PA.s2 (LL.w x100)).4) ∧ ((PA.s3 (LL.w x100)).1 = (PA.s3
(LL.w x100)).1 ∧ (PA.s3 (LL.w x100)).2 = (PA.s3 (LL.w x100)).2 ∧ (PA.s3 (LL.w x100)).3 = (PA.s3 (LL.w x100)).3 ∧ (PA.s3 (LL.w x100)).4 = (PA.s3 (LL.w x100)).4) ∧ (LL.w x100).4 =
(LL.w x100).4 ∧ (LL.w x100).5 = (LL.w x100).5 ∧ (LL.w x100).6 = (LL.w x100).6 ∧ (LL.w x100).7 = (LL.w x100).7 ∧ (LL.w x100).8 = (LL.w x100).8 ∧ True) ∧ True) ∧ (True ∧ FlatL (PA.s1
(LL.q x100)).5 ∧ (PA.s1 (LL.q x100)).5 = (PA.s1 (LL.q x100)).5) ∧ (True ∧ FlatL (PA.s2 (LL.q x100)).5 ∧ (PA.s2 (LL.q x100)).5 = (PA.s2 (LL.q x100)).5) ∧ (True ∧ FlatL x111.3 ∧
x111.3 = x111.3) ∧ (True ∧ FlatL (PA.s1 (LL.w x100)).5 ∧ (PA.s1 (LL.w x100)).5 = (PA.s1 (LL.w x100)).5) ∧ (True ∧ FlatL (PA.s2 (LL.w x100)).5 ∧ (PA.s2 (LL.w x100)).5 = (PA.s2 (LL.w
x100)).5) ∧ (True ∧ FlatL (PA.s3 (LL.w x100)).5 ∧ (PA.s3 (LL.w x100)).5 = (PA.s3 (LL.w x100)).5) ∧ True) ∧ (∀ (x115 : BL), (∀ (x116 x117 : PX), PH (PA.mk (SA.mk (PA.s1 (LL.q
x100)).1 (PA.s1 (LL.q x100)).2 (PA.s1 (LL.q x100)).3 (PA.s1 (LL.q x100)).4 (PA.s1 (LL.q x100)).5) (SA.mk (PA.s2 (LL.q x100)).1 (PA.s2 (LL.q x100)).2 (PA.s2 (LL.q x100)).3 (PA.s2
(LL.q x100)).4 (PA.s2 (LL.q x100)).5) (SA.mk x111.1 (nat_lit 0) (PA.s3 (LL.q x100)).3 x111.2 x111.3) (LL.q x100).4 (LL.q x100).5 (LL.q x100).6 (LL.q x100).7 (LL.q x100).8) x116 →
PH (PA.mk (SA.mk (PA.s1 (LL.w x100)).1 (PA.s1 (LL.w x100)).2 (PA.s1 (LL.w x100)).3 (PA.s1 (LL.w x100)).4 (PA.s1 (LL.w x100)).5) (SA.mk (PA.s2 (LL.w x100)).1 (PA.s2 (LL.w x100)).2
(PA.s2 (LL.w x100)).3 (PA.s2 (LL.w x100)).4 (PA.s2 (LL.w x100)).5) (SA.mk (PA.s3 (LL.w x100)).1 (PA.s3 (LL.w x100)).2 (PA.s3 (LL.w x100)).3 (PA.s3 (LL.w x100)).4 (PA.s3 (LL.w
x100)).5) (LL.w x100).4 (LL.w x100).5 (LL.w x100).6 (LL.w x100).7 (LL.w x100).8) x117 → (x115.1 = Bool.true ↔ enc (PA.mk (SA.mk (PA.s1 (LL.q x100)).1 (PA.s1 (LL.q x100)).2 (PA.s1
(LL.q x100)).3 (PA.s1 (LL.q x100)).4 (PA.s1 (LL.q x100)).5) (SA.mk (PA.s2 (LL.q x100)).1 (PA.s2 (LL.q x100)).2 (PA.s2 (LL.q x100)).3 (PA.s2 (LL.q x100)).4 (PA.s2 (LL.q x100)).5)
(SA.mk x111.1 (nat_lit 0) (PA.s3 (LL.q x100)).3 x111.2 x111.3) (LL.q x100).4 (LL.q x100).5 (LL.q x100).6 (LL.q x100).7 (LL.q x100).8) x116 = enc (PA.mk (SA.mk (PA.s1 (LL.w x100)).1
(PA.s1 (LL.w x100)).2 (PA.s1 (LL.w x100)).3 (PA.s1 (LL.w x100)).4 (PA.s1 (LL.w x100)).5) (SA.mk (PA.s2 (LL.w x100)).1 (PA.s2 (LL.w x100)).2 (PA.s2 (LL.w x100)).3 (PA.s2 (LL.w
x100)).4 (PA.s2 (LL.w x100)).5) (SA.mk (PA.s3 (LL.w x100)).1 (PA.s3 (LL.w x100)).2 (PA.s3 (LL.w x100)).3 (PA.s3 (LL.w x100)).4 (PA.s3 (LL.w x100)).5) (LL.w x100).4 (LL.w x100).5
(LL.w x100).6 (LL.w x100).7 (LL.w x100).8) x117)) → (True ∧ True ∧ True ∧ True ∧ True ∧ True ∧ True ∧ True ∧ True ∧ (W_G_apart_0 x100 = W_G_apart_0 x100 ∧ True) ∧ True ∧ True ∧
True ∧ True) ∧ ∃ (x118 : Unit), True ∧ Bool.true = x115.1 ∧ True) ∧ True) ∧ True) ∧ True)) ∧ True) ∧ (x91.1 = Bool.false → (True ∧ True ∧ True ∧ (W_G_apart_0 x77 = W_G_apart_0 x77
∧ True) ∧ True ∧ True ∧ True) ∧ ∃ (x119 : Unit), True ∧ Bool.true = Bool.false ∧ True)) ∧ True) ∧ True)) ∧ True) ∧ True) ∧ True)) ∧ ((PA.s1 (AA.p a)).1 = Bool.false → nat_lit 0 +
Min.min (PA.s1 (AA.p a)).3 (70 : Nat) * (1 : Nat) ≤ List.length (PB.b1 x3).2 ∧ ∀ (x120 : List Value), x120 = lwin (PB.b1 x3).2 (nat_lit 0) (Min.min (PA.s1 (AA.p a)).3 (70 : Nat) *
(1 : Nat)) → ((0 : Nat) + Min.min (PA.s1 (AA.p a)).3 (70 : Nat) ≤ (0 : Nat) → Bool.true = Bool.true ∧ lall oneK x120 = Bool.true ∧ (0 : Nat) + List.length x120 ≤ (0 : Nat) ∧ ∀
(x121 : Nat) (x122 : List Value), x121 = (0 : Nat) + Min.min (PA.s1 (AA.p a)).3 (70 : Nat) → x122 = lput [] (0 : Nat) x120 → (True ∧ (∃ (x123 : PX), PH (PA.mk (SA.mk Bool.false
(nat_lit 0) x121 (nat_lit 0) x122) (SA.mk (PA.s2 (AA.p a)).1 (nat_lit 0) (Min.min (PA.s2 (AA.p a)).3 (10 : Nat)) (PB.b2 x3).1 (PB.b2 x3).2) (SA.mk (PA.s3 (AA.p a)).1 (nat_lit 0)
(Min.min (PA.s3 (AA.p a)).3 (10 : Nat)) (PB.b3 x3).1 (PB.b3 x3).2) (AA.p a).4 (AA.p a).5 (AA.p a).6 (AA.p a).7 (AA.p a).8) x123) ∧ x121 ≤ (100 : Nat) ∧ Min.min (PA.s2 (AA.p a)).3
(10 : Nat) ≤ (100 : Nat) ∧ Min.min (PA.s3 (AA.p a)).3 (10 : Nat) ≤ (100 : Nat)) ∧ ((((Bool.false = Bool.false ∧ nat_lit 0 = (0 : Nat) ∧ x121 = x121 ∧ nat_lit 0 = (0 : Nat)) ∧
((PA.s2 (AA.p a)).1 = (PA.s2 (AA.p a)).1 ∧ nat_lit 0 = (0 : Nat) ∧ Min.min (PA.s2 (AA.p a)).3 (10 : Nat) = Min.min (PA.s2 (AA.p a)).3 (10 : Nat) ∧ (PB.b2 x3).1 = (PB.b2 x3).1) ∧
((PA.s3 (AA.p a)).1 = (PA.s3 (AA.p a)).1 ∧ nat_lit 0 = (0 : Nat) ∧ Min.min (PA.s3 (AA.p a)).3 (10 : Nat) = Min.min (PA.s3 (AA.p a)).3 (10 : Nat) ∧ (PB.b3 x3).1 = (PB.b3 x3).1) ∧
(AA.p a).4 = (AA.p a).4 ∧ (AA.p a).5 = (AA.p a).5 ∧ (AA.p a).6 = (AA.p a).6 ∧ (AA.p a).7 = (AA.p a).7 ∧ (AA.p a).8 = (AA.p a).8 ∧ True) ∧ True) ∧ (True ∧ FlatL x122 ∧ x122 = x122)
∧ (True ∧ FlatL (PB.b2 x3).2 ∧ (PB.b2 x3).2 = (PB.b2 x3).2) ∧ (True ∧ FlatL (PB.b3 x3).2 ∧ (PB.b3 x3).2 = (PB.b3 x3).2) ∧ True) ∧ (∀ (x124 : PB), (∀ (x125 : PX), PH (PA.mk (SA.mk
Bool.false (nat_lit 0) x121 (nat_lit 0) x122) (SA.mk (PA.s2 (AA.p a)).1 (nat_lit 0) (Min.min (PA.s2 (AA.p a)).3 (10 : Nat)) (PB.b2 x3).1 (PB.b2 x3).2) (SA.mk (PA.s3 (AA.p a)).1
(nat_lit 0) (Min.min (PA.s3 (AA.p a)).3 (10 : Nat)) (PB.b3 x3).1 (PB.b3 x3).2) (AA.p a).4 (AA.p a).5 (AA.p a).6 (AA.p a).7 (AA.p a).8) x125 → PH (PA.mk (SA.mk Bool.false (0 : Nat)
x121 (PB.b1 x124).1 (PB.b1 x124).2) (SA.mk (PA.s2 (AA.p a)).1 (0 : Nat) (Min.min (PA.s2 (AA.p a)).3 (10 : Nat)) (PB.b2 x124).1 (PB.b2 x124).2) (SA.mk (PA.s3 (AA.p a)).1 (0 : Nat)
(Min.min (PA.s3 (AA.p a)).3 (10 : Nat)) (PB.b3 x124).1 (PB.b3 x124).2) (AA.p a).4 (AA.p a).5 (AA.p a).6 (AA.p a).7 (AA.p a).8) x125) → (True ∧ (∃ (x126 : PX), PH (PA.mk (SA.mk
Bool.false (nat_lit 0) x121 (PB.b1 x124).1 (PB.b1 x124).2) (SA.mk (PA.s2 (AA.p a)).1 (nat_lit 0) (Min.min (PA.s2 (AA.p a)).3 (10 : Nat)) (PB.b2 x124).1 (PB.b2 x124).2) (SA.mk
(PA.s3 (AA.p a)).1 (nat_lit 0) (Min.min (PA.s3 (AA.p a)).3 (10 : Nat)) (PB.b3 x124).1 (PB.b3 x124).2) (AA.p a).4 (AA.p a).5 (AA.p a).6 (AA.p a).7 (AA.p a).8) x126) ∧ Min.min (PA.s3
(AA.p a)).3 (10 : Nat) ≤ (100 : Nat)) ∧ ((((Bool.false = Bool.false ∧ nat_lit 0 = (0 : Nat) ∧ x121 = x121 ∧ (PB.b1 x124).1 = (PB.b1 x124).1) ∧ ((PA.s2 (AA.p a)).1 = (PA.s2 (AA.p
a)).1 ∧ nat_lit 0 = (0 : Nat) ∧ Min.min (PA.s2 (AA.p a)).3 (10 : Nat) = Min.min (PA.s2 (AA.p a)).3 (10 : Nat) ∧ (PB.b2 x124).1 = (PB.b2 x124).1) ∧ ((PA.s3 (AA.p a)).1 = (PA.s3
(AA.p a)).1 ∧ nat_lit 0 = (0 : Nat) ∧ Min.min (PA.s3 (AA.p a)).3 (10 : Nat) = Min.min (PA.s3 (AA.p a)).3 (10 : Nat) ∧ (PB.b3 x124).1 = (PB.b3 x124).1) ∧ (AA.p a).4 = (AA.p a).4 ∧
(AA.p a).5 = (AA.p a).5 ∧ (AA.p a).6 = (AA.p a).6 ∧ (AA.p a).7 = (AA.p a).7 ∧ (AA.p a).8 = (AA.p a).8 ∧ True) ∧ True) ∧ (True ∧ FlatL (PB.b1 x124).2 ∧ (PB.b1 x124).2 = (PB.b1
x124).2) ∧ (True ∧ FlatL (PB.b2 x124).2 ∧ (PB.b2 x124).2 = (PB.b2 x124).2) ∧ (True ∧ FlatL (PB.b3 x124).2 ∧ (PB.b3 x124).2 = (PB.b3 x124).2) ∧ True) ∧ (∀ (x127 : RN), (∀ (x128 :
List Int), Sli (Value.int IntKind.u8) (8 : Nat) (PA.s3 (AA.p a)).1 (nat_lit 0) (Min.min (PA.s3 (AA.p a)).3 (10 : Nat)) (PB.b3 x124).1 (PB.b3 x124).2 x128 → Sli (Value.int
IntKind.u8) (8 : Nat) x127.1 (0 : Nat) (Min.min (PA.s3 (AA.p a)).3 (10 : Nat)) x127.2 x127.3 x128) → ∀ (x129 : Int), x129 = IntKind.wrap IntKind.i64 a.1 → (True ∧ (∃ (x130 : PX),
PH (PA.mk (SA.mk Bool.false (nat_lit 0) x121 (nat_lit 0) x122) (SA.mk (PA.s2 (AA.p a)).1 (nat_lit 0) (Min.min (PA.s2 (AA.p a)).3 (10 : Nat)) (PB.b2 x3).1 (PB.b2 x3).2) (SA.mk
(PA.s3 (AA.p a)).1 (nat_lit 0) (Min.min (PA.s3 (AA.p a)).3 (10 : Nat)) (PB.b3 x3).1 (PB.b3 x3).2) (AA.p a).4 (AA.p a).5 (AA.p a).6 (AA.p a).7 (AA.p a).8) x130) ∧ wthn x129
(Int.ofNat (3 : Nat)) (Int.ofNat (4 : Nat)) = (0 : Int) ∧ x121 ≤ (100 : Nat) ∧ Min.min (PA.s2 (AA.p a)).3 (10 : Nat) ≤ (100 : Nat) ∧ Min.min (PA.s3 (AA.p a)).3 (10 : Nat) ≤ (100 :
Nat)) ∧ ((x129 = x129 ∧ ((Bool.false = Bool.false ∧ nat_lit 0 = (0 : Nat) ∧ x121 = x121 ∧ nat_lit 0 = (0 : Nat)) ∧ ((PA.s2 (AA.p a)).1 = (PA.s2 (AA.p a)).1 ∧ nat_lit 0 = (0 : Nat)
∧ Min.min (PA.s2 (AA.p a)).3 (10 : Nat) = Min.min (PA.s2 (AA.p a)).3 (10 : Nat) ∧ (PB.b2 x3).1 = (PB.b2 x3).1) ∧ ((PA.s3 (AA.p a)).1 = (PA.s3 (AA.p a)).1 ∧ nat_lit 0 = (0 : Nat) ∧
Min.min (PA.s3 (AA.p a)).3 (10 : Nat) = Min.min (PA.s3 (AA.p a)).3 (10 : Nat) ∧ (PB.b3 x3).1 = (PB.b3 x3).1) ∧ (AA.p a).4 = (AA.p a).4 ∧ (AA.p a).5 = (AA.p a).5 ∧ (AA.p a).6 =
(AA.p a).6 ∧ (AA.p a).7 = (AA.p a).7 ∧ (AA.p a).8 = (AA.p a).8 ∧ True) ∧ Int.ofNat (3 : Nat) = (3 : Int) ∧ Int.ofNat (4 : Nat) = (4 : Int) ∧ True) ∧ (True ∧ FlatL x122 ∧ x122 =
x122) ∧ (True ∧ FlatL (PB.b2 x3).2 ∧ (PB.b2 x3).2 = (PB.b2 x3).2) ∧ (True ∧ FlatL (PB.b3 x3).2 ∧ (PB.b3 x3).2 = (PB.b3 x3).2) ∧ True) ∧ (∀ (x131 : PB), (∀ (x132 : PX), PH (PA.mk
(SA.mk Bool.false (nat_lit 0) x121 (nat_lit 0) x122) (SA.mk (PA.s2 (AA.p a)).1 (nat_lit 0) (Min.min (PA.s2 (AA.p a)).3 (10 : Nat)) (PB.b2 x3).1 (PB.b2 x3).2) (SA.mk (PA.s3 (AA.p
a)).1 (nat_lit 0) (Min.min (PA.s3 (AA.p a)).3 (10 : Nat)) (PB.b3 x3).1 (PB.b3 x3).2) (AA.p a).4 (AA.p a).5 (AA.p a).6 (AA.p a).7 (AA.p a).8) x132 → PH (PA.mk (SA.mk Bool.false (0 :
Nat) x121 (PB.b1 x131).1 (PB.b1 x131).2) (SA.mk (PA.s2 (AA.p a)).1 (0 : Nat) (Min.min (PA.s2 (AA.p a)).3 (10 : Nat)) (PB.b2 x131).1 (PB.b2 x131).2) (SA.mk (PA.s3 (AA.p a)).1 (0 :
Nat) (Min.min (PA.s3 (AA.p a)).3 (10 : Nat)) (PB.b3 x131).1 (PB.b3 x131).2) (AA.p a).4 (AA.p a).5 (AA.p a).6 (AA.p a).7 (AA.p a).8) x132) → ∃ (x133 : LL), (((0 : Int) ≤ x133.1 ∧
x133.1 ≤ ↑x133.3) ∧ (x133.3 ≤ (70 : Nat) ∧ x133.3 ≤ x133.4) ∧ Ir x133.5 x133.3 ∧ Twin x133.7 x133.6) ∧ ((a.1 = a.1 ∧ (0 : Nat) = (0 : Nat) ∧ (0 : Nat) = (0 : Nat) ∧ (0 : Nat) = (0
: Nat) ∧ x133.1 = (0 : Int) ∧ True) ∧ ((True ∧ ((0 : Nat) = (0 : Nat) ∧ x133.3 = x121 ∧ x133.4 = (0 : Nat)) ∧ True ∧ True ∧ True ∧ True ∧ True ∧ True ∧ True ∧ True) ∧ ((x133.4 = (0
: Nat) ∧ x122 = []) ∧ FlatL x133.5 ∧ x133.5 = x122) ∧ (True ∧ ((PA.s1 (LL.w x133)).1 = Bool.false ∧ (PA.s1 (LL.w x133)).2 = nat_lit 0 ∧ (PA.s1 (LL.w x133)).3 = x121 ∧ (PA.s1 (LL.w
x133)).4 = (PB.b1 x124).1) ∧ ((PA.s2 (LL.w x133)).1 = (PA.s2 (AA.p a)).1 ∧ (PA.s2 (LL.w x133)).2 = nat_lit 0 ∧ (PA.s2 (LL.w x133)).3 = Min.min (PA.s2 (AA.p a)).3 (10 : Nat) ∧
(PA.s2 (LL.w x133)).4 = (PB.b2 x124).1) ∧ ((PA.s3 (LL.w x133)).1 = x127.1 ∧ (PA.s3 (LL.w x133)).2 = (0 : Nat) ∧ (PA.s3 (LL.w x133)).3 = Min.min (PA.s3 (AA.p a)).3 (10 : Nat) ∧
(PA.s3 (LL.w x133)).4 = x127.2) ∧ (LL.w x133).4 = (AA.p a).4 ∧ (LL.w x133).5 = (AA.p a).5 ∧ (LL.w x133).6 = (AA.p a).6 ∧ (LL.w x133).7 = (AA.p a).7 ∧ (LL.w x133).8 = (AA.p a).8 ∧
True) ∧ (True ∧ a.1 = x129 ∧ a.1 = x129 ∧ ((PA.s1 (LL.q x133)).1 = Bool.false ∧ (PA.s1 (LL.q x133)).2 = (0 : Nat) ∧ (PA.s1 (LL.q x133)).3 = x121 ∧ (PA.s1 (LL.q x133)).4 = (PB.b1
x131).1) ∧ ((PA.s2 (LL.q x133)).1 = (PA.s2 (AA.p a)).1 ∧ (PA.s2 (LL.q x133)).2 = (0 : Nat) ∧ (PA.s2 (LL.q x133)).3 = Min.min (PA.s2 (AA.p a)).3 (10 : Nat) ∧ (PA.s2 (LL.q x133)).4 =
(PB.b2 x131).1) ∧ ((PA.s3 (LL.q x133)).1 = (PA.s3 (AA.p a)).1 ∧ (PA.s3 (LL.q x133)).2 = (0 : Nat) ∧ (PA.s3 (LL.q x133)).3 = Min.min (PA.s3 (AA.p a)).3 (10 : Nat) ∧ (PA.s3 (LL.q
x133)).4 = (PB.b3 x131).1) ∧ (LL.q x133).4 = (AA.p a).4 ∧ (LL.q x133).5 = (AA.p a).5 ∧ (LL.q x133).6 = (AA.p a).6 ∧ (LL.q x133).7 = (AA.p a).7 ∧ (LL.q x133).8 = (AA.p a).8 ∧ x133.8
= Int.ofNat (3 : Nat) + Int.ofNat (4 : Nat) ∧ True) ∧ (True ∧ FlatL (PA.s1 (LL.w x133)).5 ∧ (PA.s1 (LL.w x133)).5 = (PB.b1 x124).2) ∧ (True ∧ FlatL (PA.s2 (LL.w x133)).5 ∧ (PA.s2
(LL.w x133)).5 = (PB.b2 x124).2) ∧ (True ∧ FlatL (PA.s3 (LL.w x133)).5 ∧ (PA.s3 (LL.w x133)).5 = x127.3) ∧ (True ∧ FlatL (PA.s1 (LL.q x133)).5 ∧ (PA.s1 (LL.q x133)).5 = (PB.b1
x131).2) ∧ (True ∧ FlatL (PA.s2 (LL.q x133)).5 ∧ (PA.s2 (LL.q x133)).5 = (PB.b2 x131).2) ∧ (True ∧ FlatL (PA.s3 (LL.q x133)).5 ∧ (PA.s3 (LL.q x133)).5 = (PB.b3 x131).2) ∧ (True ∧
FlatL cells0 ∧ cells0 = cells0) ∧ (True ∧ FlatL cells1 ∧ cells1 = cells1) ∧ (True ∧ FlatL cells2 ∧ cells2 = cells2) ∧ (True ∧ FlatL cells4 ∧ cells4 = cells4) ∧ (True ∧ FlatL cells5
∧ cells5 = cells5) ∧ (True ∧ FlatL cells6 ∧ cells6 = cells6) ∧ (True ∧ FlatL cells8 ∧ cells8 = cells8) ∧ (True ∧ FlatL cells9 ∧ cells9 = cells9) ∧ (True ∧ FlatL cells10 ∧ cells10 =
cells10) ∧ True) ∧ True) ∧ ∀ (x134 : LL), ((0 : Int) ≤ x134.1 ∧ x134.1 ≤ ↑x134.3) ∧ (x134.3 ≤ (70 : Nat) ∧ x134.3 ≤ x134.4) ∧ Ir x134.5 x134.3 ∧ Twin x134.7 x134.6 → ∀ (x135 :
Int), x135 = ↑x134.3 → (x134.1 < x135 → ((0 : Int) ≤ x134.1 ∧ x134.1 < ↑x134.3) ∧ ∀ (x136 : Nat), x136 = (0 : Nat) + Int.toNat x134.1 * (1 : Nat) → ∃ (x137 : Int), Rd x134.5
(Nat.add x136 (0 : Nat)) (Value.int IntKind.i32 x137) ∧ ∀ (x138 : Int), x138 = IntKind.wrap IntKind.i32 (x137 + (1 : Int)) → ((0 : Int) ≤ x134.1 ∧ x134.1 < ↑x134.3) ∧ ∀ (x139 :
Nat), x139 = (0 : Nat) + Int.toNat x134.1 * (1 : Nat) → x139 + (1 : Nat) ≤ List.length x134.5 ∧ ∀ (x140 : List Value), x140 = lput x134.5 x139 [Value.iface (1000000007 : Nat)
(Value.int IntKind.i32 x138)] → ∀ (x141 : Int), x141 = IntKind.wrap IntKind.i64 (x134.1 + (1 : Int)) → ∃ (x142 : LL), (((0 : Int) ≤ x142.1 ∧ x142.1 ≤ ↑x142.3) ∧ (x142.3 ≤ (70 :
Nat) ∧ x142.3 ≤ x142.4) ∧ Ir x142.5 x142.3 ∧ Twin x142.7 x142.6) ∧ Int.toNat (↑x142.3 - x142.1) < Int.toNat (↑x134.3 - x134.1) ∧ (a.1 = a.1 ∧ (0 : Nat) = (0 : Nat) ∧ (0 : Nat) = (0
: Nat) ∧ (0 : Nat) = (0 : Nat) ∧ x142.1 = x141 ∧ True) ∧ ((True ∧ ((0 : Nat) = (0 : Nat) ∧ x142.3 = x134.3 ∧ x142.4 = x134.4) ∧ True ∧ True ∧ True ∧ True ∧ True ∧ True ∧ True ∧
True) ∧ (x142.4 = x134.4 ∧ FlatL x142.5 ∧ x142.5 = x140) ∧ (True ∧ ((PA.s1 (LL.w x142)).1 = (PA.s1 (LL.w x134)).1 ∧ (PA.s1 (LL.w x142)).2 = (PA.s1 (LL.w x134)).2 ∧ (PA.s1 (LL.w
x142)).3 = (PA.s1 (LL.w x134)).3 ∧ (PA.s1 (LL.w x142)).4 = (PA.s1 (LL.w x134)).4) ∧ ((PA.s2 (LL.w x142)).1 = (PA.s2 (LL.w x134)).1 ∧ (PA.s2 (LL.w x142)).2 = (PA.s2 (LL.w x134)).2 ∧
(PA.s2 (LL.w x142)).3 = (PA.s2 (LL.w x134)).3 ∧ (PA.s2 (LL.w x142)).4 = (PA.s2 (LL.w x134)).4) ∧ ((PA.s3 (LL.w x142)).1 = (PA.s3 (LL.w x134)).1 ∧ (PA.s3 (LL.w x142)).2 = (PA.s3
(LL.w x134)).2 ∧ (PA.s3 (LL.w x142)).3 = (PA.s3 (LL.w x134)).3 ∧ (PA.s3 (LL.w x142)).4 = (PA.s3 (LL.w x134)).4) ∧ (LL.w x142).4 = (LL.w x134).4 ∧ (LL.w x142).5 = (LL.w x134).5 ∧
(LL.w x142).6 = (LL.w x134).6 ∧ (LL.w x142).7 = (LL.w x134).7 ∧ (LL.w x142).8 = (LL.w x134).8 ∧ True) ∧ (True ∧ a.1 = a.1 ∧ a.1 = a.1 ∧ ((PA.s1 (LL.q x142)).1 = (PA.s1 (LL.q
x134)).1 ∧ (PA.s1 (LL.q x142)).2 = (PA.s1 (LL.q x134)).2 ∧ (PA.s1 (LL.q x142)).3 = (PA.s1 (LL.q x134)).3 ∧ (PA.s1 (LL.q x142)).4 = (PA.s1 (LL.q x134)).4) ∧ ((PA.s2 (LL.q x142)).1 =
(PA.s2 (LL.q x134)).1 ∧ (PA.s2 (LL.q x142)).2 = (PA.s2 (LL.q x134)).2 ∧ (PA.s2 (LL.q x142)).3 = (PA.s2 (LL.q x134)).3 ∧ (PA.s2 (LL.q x142)).4 = (PA.s2 (LL.q x134)).4) ∧ ((PA.s3
(LL.q x142)).1 = (PA.s3 (LL.q x134)).1 ∧ (PA.s3 (LL.q x142)).2 = (PA.s3 (LL.q x134)).2 ∧ (PA.s3 (LL.q x142)).3 = (PA.s3 (LL.q x134)).3 ∧ (PA.s3 (LL.q x142)).4 = (PA.s3 (LL.q
x134)).4) ∧ (LL.q x142).4 = (LL.q x134).4 ∧ (LL.q x142).5 = (LL.q x134).5 ∧ (LL.q x142).6 = (LL.q x134).6 ∧ (LL.q x142).7 = (LL.q x134).7 ∧ (LL.q x142).8 = (LL.q x134).8 ∧ x142.8 =
x134.8 ∧ True) ∧ (True ∧ FlatL (PA.s1 (LL.w x142)).5 ∧ (PA.s1 (LL.w x142)).5 = (PA.s1 (LL.w x134)).5) ∧ (True ∧ FlatL (PA.s2 (LL.w x142)).5 ∧ (PA.s2 (LL.w x142)).5 = (PA.s2 (LL.w
x134)).5) ∧ (True ∧ FlatL (PA.s3 (LL.w x142)).5 ∧ (PA.s3 (LL.w x142)).5 = (PA.s3 (LL.w x134)).5) ∧ (True ∧ FlatL (PA.s1 (LL.q x142)).5 ∧ (PA.s1 (LL.q x142)).5 = (PA.s1 (LL.q
x134)).5) ∧ (True ∧ FlatL (PA.s2 (LL.q x142)).5 ∧ (PA.s2 (LL.q x142)).5 = (PA.s2 (LL.q x134)).5) ∧ (True ∧ FlatL (PA.s3 (LL.q x142)).5 ∧ (PA.s3 (LL.q x142)).5 = (PA.s3 (LL.q
x134)).5) ∧ (True ∧ FlatL cells0 ∧ cells0 = cells0) ∧ (True ∧ FlatL cells1 ∧ cells1 = cells1) ∧ (True ∧ FlatL cells2 ∧ cells2 = cells2) ∧ (True ∧ FlatL cells4 ∧ cells4 = cells4) ∧
(True ∧ FlatL cells5 ∧ cells5 = cells5) ∧ (True ∧ FlatL cells6 ∧ cells6 = cells6) ∧ (True ∧ FlatL cells8 ∧ cells8 = cells8) ∧ (True ∧ FlatL cells9 ∧ cells9 = cells9) ∧ (True ∧
FlatL cells10 ∧ cells10 = cells10) ∧ True) ∧ True) ∧ (¬x134.1 < x135 → (True ∧ (∃ (x143 : PX), PH (PA.mk (SA.mk (PA.s1 (LL.q x134)).1 (PA.s1 (LL.q x134)).2 (PA.s1 (LL.q x134)).3
(PA.s1 (LL.q x134)).4 (PA.s1 (LL.q x134)).5) (SA.mk (PA.s2 (LL.q x134)).1 (PA.s2 (LL.q x134)).2 (PA.s2 (LL.q x134)).3 (PA.s2 (LL.q x134)).4 (PA.s2 (LL.q x134)).5) (SA.mk (PA.s3
(LL.q x134)).1 (PA.s3 (LL.q x134)).2 (PA.s3 (LL.q x134)).3 (PA.s3 (LL.q x134)).4 (PA.s3 (LL.q x134)).5) (LL.q x134).4 (LL.q x134).5 (LL.q x134).6 (LL.q x134).7 (LL.q x134).8) x143)
∧ (PA.s3 (LL.q x134)).3 ≤ (100 : Nat)) ∧ (((((PA.s1 (LL.q x134)).1 = (PA.s1 (LL.q x134)).1 ∧ (PA.s1 (LL.q x134)).2 = (PA.s1 (LL.q x134)).2 ∧ (PA.s1 (LL.q x134)).3 = (PA.s1 (LL.q
x134)).3 ∧ (PA.s1 (LL.q x134)).4 = (PA.s1 (LL.q x134)).4) ∧ ((PA.s2 (LL.q x134)).1 = (PA.s2 (LL.q x134)).1 ∧ (PA.s2 (LL.q x134)).2 = (PA.s2 (LL.q x134)).2 ∧ (PA.s2 (LL.q x134)).3 =
(PA.s2 (LL.q x134)).3 ∧ (PA.s2 (LL.q x134)).4 = (PA.s2 (LL.q x134)).4) ∧ ((PA.s3 (LL.q x134)).1 = (PA.s3 (LL.q x134)).1 ∧ (PA.s3 (LL.q x134)).2 = (PA.s3 (LL.q x134)).2 ∧ (PA.s3
(LL.q x134)).3 = (PA.s3 (LL.q x134)).3 ∧ (PA.s3 (LL.q x134)).4 = (PA.s3 (LL.q x134)).4) ∧ (LL.q x134).4 = (LL.q x134).4 ∧ (LL.q x134).5 = (LL.q x134).5 ∧ (LL.q x134).6 = (LL.q
x134).6 ∧ (LL.q x134).7 = (LL.q x134).7 ∧ (LL.q x134).8 = (LL.q x134).8 ∧ True) ∧ True) ∧ (True ∧ FlatL (PA.s1 (LL.q x134)).5 ∧ (PA.s1 (LL.q x134)).5 = (PA.s1 (LL.q x134)).5) ∧
(True ∧ FlatL (PA.s2 (LL.q x134)).5 ∧ (PA.s2 (LL.q x134)).5 = (PA.s2 (LL.q x134)).5) ∧ (True ∧ FlatL (PA.s3 (LL.q x134)).5 ∧ (PA.s3 (LL.q x134)).5 = (PA.s3 (LL.q x134)).5) ∧ True)
∧ (∀ (x144 : RN), (∀ (x145 : List Int), Sli (Value.int IntKind.u8) (8 : Nat) (PA.s3 (LL.q x134)).1 (PA.s3 (LL.q x134)).2 (PA.s3 (LL.q x134)).3 (PA.s3 (LL.q x134)).4 (PA.s3 (LL.q
x134)).5 x145 → Sli (Value.int IntKind.u8) (8 : Nat) x144.1 (0 : Nat) (PA.s3 (LL.q x134)).3 x144.2 x144.3 x145) → (True ∧ ((∃ (x146 : PX), PH (PA.mk (SA.mk (PA.s1 (LL.q x134)).1
(PA.s1 (LL.q x134)).2 (PA.s1 (LL.q x134)).3 (PA.s1 (LL.q x134)).4 (PA.s1 (LL.q x134)).5) (SA.mk (PA.s2 (LL.q x134)).1 (PA.s2 (LL.q x134)).2 (PA.s2 (LL.q x134)).3 (PA.s2 (LL.q
x134)).4 (PA.s2 (LL.q x134)).5) (SA.mk x144.1 (nat_lit 0) (PA.s3 (LL.q x134)).3 x144.2 x144.3) (LL.q x134).4 (LL.q x134).5 (LL.q x134).6 (LL.q x134).7 (LL.q x134).8) x146 ∧ PW
(PA.mk (SA.mk (PA.s1 (LL.q x134)).1 (PA.s1 (LL.q x134)).2 (PA.s1 (LL.q x134)).3 (PA.s1 (LL.q x134)).4 (PA.s1 (LL.q x134)).5) (SA.mk (PA.s2 (LL.q x134)).1 (PA.s2 (LL.q x134)).2
(PA.s2 (LL.q x134)).3 (PA.s2 (LL.q x134)).4 (PA.s2 (LL.q x134)).5) (SA.mk x144.1 (nat_lit 0) (PA.s3 (LL.q x134)).3 x144.2 x144.3) (LL.q x134).4 (LL.q x134).5 (LL.q x134).6 (LL.q
x134).7 (LL.q x134).8) x146) ∧ ∃ (x147 : PX), PH (PA.mk (SA.mk (PA.s1 (LL.w x134)).1 (PA.s1 (LL.w x134)).2 (PA.s1 (LL.w x134)).3 (PA.s1 (LL.w x134)).4 (PA.s1 (LL.w x134)).5) (SA.mk
(PA.s2 (LL.w x134)).1 (PA.s2 (LL.w x134)).2 (PA.s2 (LL.w x134)).3 (PA.s2 (LL.w x134)).4 (PA.s2 (LL.w x134)).5) (SA.mk (PA.s3 (LL.w x134)).1 (PA.s3 (LL.w x134)).2 (PA.s3 (LL.w
x134)).3 (PA.s3 (LL.w x134)).4 (PA.s3 (LL.w x134)).5) (LL.w x134).4 (LL.w x134).5 (LL.w x134).6 (LL.w x134).7 (LL.w x134).8) x147 ∧ PW (PA.mk (SA.mk (PA.s1 (LL.w x134)).1 (PA.s1
(LL.w x134)).2 (PA.s1 (LL.w x134)).3 (PA.s1 (LL.w x134)).4 (PA.s1 (LL.w x134)).5) (SA.mk (PA.s2 (LL.w x134)).1 (PA.s2 (LL.w x134)).2 (PA.s2 (LL.w x134)).3 (PA.s2 (LL.w x134)).4
(PA.s2 (LL.w x134)).5) (SA.mk (PA.s3 (LL.w x134)).1 (PA.s3 (LL.w x134)).2 (PA.s3 (LL.w x134)).3 (PA.s3 (LL.w x134)).4 (PA.s3 (LL.w x134)).5) (LL.w x134).4 (LL.w x134).5 (LL.w
x134).6 (LL.w x134).7 (LL.w x134).8) x147) ∧ ((PA.s1 (LL.q x134)).3 ≤ (70 : Nat) ∧ (PA.s2 (LL.q x134)).3 ≤ (10 : Nat) ∧ (PA.s3 (LL.q x134)).3 ≤ (10 : Nat)) ∧ (PA.s1 (LL.w x134)).3
≤ (70 : Nat) ∧ (PA.s2 (LL.w x134)).3 ≤ (10 : Nat) ∧ (PA.s3 (LL.w x134)).3 ≤ (10 : Nat)) ∧ (((((PA.s1 (LL.q x134)).1 = (PA.s1 (LL.q x134)).1 ∧ (PA.s1 (LL.q x134)).2 = (PA.s1 (LL.q
x134)).2 ∧ (PA.s1 (LL.q x134)).3 = (PA.s1 (LL.q x134)).3 ∧ (PA.s1 (LL.q x134)).4 = (PA.s1 (LL.q x134)).4) ∧ ((PA.s2 (LL.q x134)).1 = (PA.s2 (LL.q x134)).1 ∧ (PA.s2 (LL.q x134)).2 =
(PA.s2 (LL.q x134)).2 ∧ (PA.s2 (LL.q x134)).3 = (PA.s2 (LL.q x134)).3 ∧ (PA.s2 (LL.q x134)).4 = (PA.s2 (LL.q x134)).4) ∧ (x144.1 = x144.1 ∧ nat_lit 0 = (0 : Nat) ∧ (PA.s3 (LL.q
x134)).3 = (PA.s3 (LL.q x134)).3 ∧ x144.2 = x144.2) ∧ (LL.q x134).4 = (LL.q x134).4 ∧ (LL.q x134).5 = (LL.q x134).5 ∧ (LL.q x134).6 = (LL.q x134).6 ∧ (LL.q x134).7 = (LL.q x134).7
∧ (LL.q x134).8 = (LL.q x134).8 ∧ True) ∧ (((PA.s1 (LL.w x134)).1 = (PA.s1 (LL.w x134)).1 ∧ (PA.s1 (LL.w x134)).2 = (PA.s1 (LL.w x134)).2 ∧ (PA.s1 (LL.w x134)).3 = (PA.s1 (LL.w
x134)).3 ∧ (PA.s1 (LL.w x134)).4 = (PA.s1 (LL.w x134)).4) ∧ ((PA.s2 (LL.w x134)).1 = (PA.s2 (LL.w x134)).1 ∧ (PA.s2 (LL.w x134)).2 = (PA.s2 (LL.w x134)).2 ∧ (PA.s2 (LL.w x134)).3 =
(PA.s2 (LL.w x134)).3 ∧ (PA.s2 (LL.w x134)).4 = (PA.s2 (LL.w x134)).4) ∧ ((PA.s3 (LL.w x134)).1 = (PA.s3 (LL.w x134)).1 ∧ (PA.s3 (LL.w x134)).2 = (PA.s3 (LL.w x134)).2 ∧ (PA.s3
(LL.w x134)).3 = (PA.s3 (LL.w x134)).3 ∧ (PA.s3 (LL.w x134)).4 = (PA.s3 (LL.w x134)).4) ∧ (LL.w x134).4 = (LL.w x134).4 ∧ (LL.w x134).5 = (LL.w x134).5 ∧ (LL.w x134).6 = (LL.w
x134).6 ∧ (LL.w x134).7 = (LL.w x134).7 ∧ (LL.w x134).8 = (LL.w x134).8 ∧ True) ∧ True) ∧ (True ∧ FlatL (PA.s1 (LL.q x134)).5 ∧ (PA.s1 (LL.q x134)).5 = (PA.s1 (LL.q x134)).5) ∧
(True ∧ FlatL (PA.s2 (LL.q x134)).5 ∧ (PA.s2 (LL.q x134)).5 = (PA.s2 (LL.q x134)).5) ∧ (True ∧ FlatL x144.3 ∧ x144.3 = x144.3) ∧ (True ∧ FlatL (PA.s1 (LL.w x134)).5 ∧ (PA.s1 (LL.w
x134)).5 = (PA.s1 (LL.w x134)).5) ∧ (True ∧ FlatL (PA.s2 (LL.w x134)).5 ∧ (PA.s2 (LL.w x134)).5 = (PA.s2 (LL.w x134)).5) ∧ (True ∧ FlatL (PA.s3 (LL.w x134)).5 ∧ (PA.s3 (LL.w
x134)).5 = (PA.s3 (LL.w x134)).5) ∧ True) ∧ (∀ (x148 : BL), (∀ (x149 x150 : PX), PH (PA.mk (SA.mk (PA.s1 (LL.q x134)).1 (PA.s1 (LL.q x134)).2 (PA.s1 (LL.q x134)).3 (PA.s1 (LL.q
x134)).4 (PA.s1 (LL.q x134)).5) (SA.mk (PA.s2 (LL.q x134)).1 (PA.s2 (LL.q x134)).2 (PA.s2 (LL.q x134)).3 (PA.s2 (LL.q x134)).4 (PA.s2 (LL.q x134)).5) (SA.mk x144.1 (nat_lit 0)
(PA.s3 (LL.q x134)).3 x144.2 x144.3) (LL.q x134).4 (LL.q x134).5 (LL.q x134).6 (LL.q x134).7 (LL.q x134).8) x149 → PH (PA.mk (SA.mk (PA.s1 (LL.w x134)).1 (PA.s1 (LL.w x134)).2
(PA.s1 (LL.w x134)).3 (PA.s1 (LL.w x134)).4 (PA.s1 (LL.w x134)).5) (SA.mk (PA.s2 (LL.w x134)).1 (PA.s2 (LL.w x134)).2 (PA.s2 (LL.w x134)).3 (PA.s2 (LL.w x134)).4 (PA.s2 (LL.w
x134)).5) (SA.mk (PA.s3 (LL.w x134)).1 (PA.s3 (LL.w x134)).2 (PA.s3 (LL.w x134)).3 (PA.s3 (LL.w x134)).4 (PA.s3 (LL.w x134)).5) (LL.w x134).4 (LL.w x134).5 (LL.w x134).6 (LL.w
x134).7 (LL.w x134).8) x150 → (x148.1 = Bool.true ↔ enc (PA.mk (SA.mk (PA.s1 (LL.q x134)).1 (PA.s1 (LL.q x134)).2 (PA.s1 (LL.q x134)).3 (PA.s1 (LL.q x134)).4 (PA.s1 (LL.q x134)).5)
(SA.mk (PA.s2 (LL.q x134)).1 (PA.s2 (LL.q x134)).2 (PA.s2 (LL.q x134)).3 (PA.s2 (LL.q x134)).4 (PA.s2 (LL.q x134)).5) (SA.mk x144.1 (nat_lit 0) (PA.s3 (LL.q x134)).3 x144.2 x144.3)
(LL.q x134).4 (LL.q x134).5 (LL.q x134).6 (LL.q x134).7 (LL.q x134).8) x149 = enc (PA.mk (SA.mk (PA.s1 (LL.w x134)).1 (PA.s1 (LL.w x134)).2 (PA.s1 (LL.w x134)).3 (PA.s1 (LL.w
x134)).4 (PA.s1 (LL.w x134)).5) (SA.mk (PA.s2 (LL.w x134)).1 (PA.s2 (LL.w x134)).2 (PA.s2 (LL.w x134)).3 (PA.s2 (LL.w x134)).4 (PA.s2 (LL.w x134)).5) (SA.mk (PA.s3 (LL.w x134)).1
(PA.s3 (LL.w x134)).2 (PA.s3 (LL.w x134)).3 (PA.s3 (LL.w x134)).4 (PA.s3 (LL.w x134)).5) (LL.w x134).4 (LL.w x134).5 (LL.w x134).6 (LL.w x134).7 (LL.w x134).8) x150)) → (x148.1 =
Bool.true → (True ∧ True ∧ True ∧ (W_G_apart_0 x134 = W_G_apart_0 x134 ∧ True) ∧ True ∧ True ∧ True) ∧ ∀ (x151 : Int), x151 = IntKind.wrap IntKind.i64 a.1 → ∀ (x152 : Int), x152 =
IntKind.wrap IntKind.i64 (x151 + (1 : Int)) → (True ∧ (∃ (x153 : PX), PH (PA.mk (SA.mk (PA.s1 (LL.q x134)).1 (PA.s1 (LL.q x134)).2 (PA.s1 (LL.q x134)).3 (PA.s1 (LL.q x134)).4
(PA.s1 (LL.q x134)).5) (SA.mk (PA.s2 (LL.q x134)).1 (PA.s2 (LL.q x134)).2 (PA.s2 (LL.q x134)).3 (PA.s2 (LL.q x134)).4 (PA.s2 (LL.q x134)).5) (SA.mk (PA.s3 (LL.q x134)).1 (PA.s3
(LL.q x134)).2 (PA.s3 (LL.q x134)).3 (PA.s3 (LL.q x134)).4 (PA.s3 (LL.q x134)).5) (LL.q x134).4 (LL.q x134).5 (LL.q x134).6 (LL.q x134).7 (LL.q x134).8) x153) ∧ (wthn x152
(Int.ofNat (3 : Nat)) (Int.ofNat (4 : Nat)) = (0 : Int) ∧ a.1 < x152) ∧ (PA.s1 (LL.q x134)).3 ≤ (100 : Nat) ∧ (PA.s2 (LL.q x134)).3 ≤ (100 : Nat) ∧ (PA.s3 (LL.q x134)).3 ≤ (100 :
Nat)) ∧ (((a.1 = a.1 ∧ True ∧ True ∧ True ∧ True ∧ True ∧ True ∧ True ∧ True ∧ True ∧ True ∧ True) ∧ x152 = x152 ∧ (((PA.s1 (LL.q x134)).1 = (PA.s1 (LL.q x134)).1 ∧ (PA.s1 (LL.q
x134)).2 = (PA.s1 (LL.q x134)).2 ∧ (PA.s1 (LL.q x134)).3 = (PA.s1 (LL.q x134)).3 ∧ (PA.s1 (LL.q x134)).4 = (PA.s1 (LL.q x134)).4) ∧ ((PA.s2 (LL.q x134)).1 = (PA.s2 (LL.q x134)).1 ∧
(PA.s2 (LL.q x134)).2 = (PA.s2 (LL.q x134)).2 ∧ (PA.s2 (LL.q x134)).3 = (PA.s2 (LL.q x134)).3 ∧ (PA.s2 (LL.q x134)).4 = (PA.s2 (LL.q x134)).4) ∧ ((PA.s3 (LL.q x134)).1 = (PA.s3
(LL.q x134)).1 ∧ (PA.s3 (LL.q x134)).2 = (PA.s3 (LL.q x134)).2 ∧ (PA.s3 (LL.q x134)).3 = (PA.s3 (LL.q x134)).3 ∧ (PA.s3 (LL.q x134)).4 = (PA.s3 (LL.q x134)).4) ∧ (LL.q x134).4 =
(LL.q x134).4 ∧ (LL.q x134).5 = (LL.q x134).5 ∧ (LL.q x134).6 = (LL.q x134).6 ∧ (LL.q x134).7 = (LL.q x134).7 ∧ (LL.q x134).8 = (LL.q x134).8 ∧ True) ∧ Int.ofNat (3 : Nat) = (3 :
Int) ∧ Int.ofNat (4 : Nat) = (4 : Int) ∧ True) ∧ (True ∧ FlatL (PA.s1 (LL.q x134)).5 ∧ (PA.s1 (LL.q x134)).5 = (PA.s1 (LL.q x134)).5) ∧ (True ∧ FlatL (PA.s2 (LL.q x134)).5 ∧ (PA.s2
(LL.q x134)).5 = (PA.s2 (LL.q x134)).5) ∧ (True ∧ FlatL (PA.s3 (LL.q x134)).5 ∧ (PA.s3 (LL.q x134)).5 = (PA.s3 (LL.q x134)).5) ∧ True) ∧ (∀ (x154 : PB), (∀ (x155 : PX), PH (PA.mk
(SA.mk (PA.s1 (LL.q x134)).1 (PA.s1 (LL.q x134)).2 (PA.s1 (LL.q x134)).3 (PA.s1 (LL.q x134)).4 (PA.s1 (LL.q x134)).5) (SA.mk (PA.s2 (LL.q x134)).1 (PA.s2 (LL.q x134)).2 (PA.s2
(LL.q x134)).3 (PA.s2 (LL.q x134)).4 (PA.s2 (LL.q x134)).5) (SA.mk (PA.s3 (LL.q x134)).1 (PA.s3 (LL.q x134)).2 (PA.s3 (LL.q x134)).3 (PA.s3 (LL.q x134)).4 (PA.s3 (LL.q x134)).5)
(LL.q x134).4 (LL.q x134).5 (LL.q x134).6 (LL.q x134).7 (LL.q x134).8) x155 → PH (PA.mk (SA.mk (PA.s1 (LL.q x134)).1 (0 : Nat) (PA.s1 (LL.q x134)).3 (PB.b1 x154).1 (PB.b1 x154).2)
(SA.mk (PA.s2 (LL.q x134)).1 (0 : Nat) (PA.s2 (LL.q x134)).3 (PB.b2 x154).1 (PB.b2 x154).2) (SA.mk (PA.s3 (LL.q x134)).1 (0 : Nat) (PA.s3 (LL.q x134)).3 (PB.b3 x154).1 (PB.b3
x154).2) (LL.q x134).4 (LL.q x134).5 (LL.q x134).6 (LL.q x134).7 (LL.q x134).8) x155) → ∃ (x156 : LL), (((0 : Int) ≤ x156.1 ∧ x156.1 ≤ ↑x156.3) ∧ (x156.3 ≤ (70 : Nat) ∧ x156.3 ≤
x156.4) ∧ Ir x156.5 x156.3 ∧ Twin x156.7 x156.6) ∧ (((0 : Nat) = (0 : Nat) ∧ (0 : Nat) = (0 : Nat) ∧ (0 : Nat) = (0 : Nat) ∧ (0 : Int) = (0 : Int) ∧ x156.1 = (0 : Int) ∧ True) ∧
((True ∧ True ∧ True ∧ (x156.2 = (PA.s1 (LL.q x134)).1 ∧ (0 : Nat) = (0 : Nat) ∧ x156.3 = (PA.s1 (LL.q x134)).3 ∧ x156.4 = (PB.b1 x154).1) ∧ True ∧ True ∧ True ∧ True ∧ True ∧ True
∧ True ∧ True ∧ True) ∧ (x156.4 = (PB.b1 x154).1 ∧ FlatL x156.5 ∧ x156.5 = (PB.b1 x154).2) ∧ (True ∧ ((PA.s1 (LL.w x156)).1 = (PA.s1 (LL.w x134)).1 ∧ (PA.s1 (LL.w x156)).2 = (PA.s1
(LL.w x134)).2 ∧ (PA.s1 (LL.w x156)).3 = (PA.s1 (LL.w x134)).3 ∧ (PA.s1 (LL.w x156)).4 = (PA.s1 (LL.w x134)).4) ∧ ((PA.s2 (LL.w x156)).1 = (PA.s2 (LL.w x134)).1 ∧ (PA.s2 (LL.w
x156)).2 = (PA.s2 (LL.w x134)).2 ∧ (PA.s2 (LL.w x156)).3 = (PA.s2 (LL.w x134)).3 ∧ (PA.s2 (LL.w x156)).4 = (PA.s2 (LL.w x134)).4) ∧ ((PA.s3 (LL.w x156)).1 = (PA.s3 (LL.w x134)).1 ∧
(PA.s3 (LL.w x156)).2 = (PA.s3 (LL.w x134)).2 ∧ (PA.s3 (LL.w x156)).3 = (PA.s3 (LL.w x134)).3 ∧ (PA.s3 (LL.w x156)).4 = (PA.s3 (LL.w x134)).4) ∧ (LL.w x156).4 = (LL.w x134).4 ∧
(LL.w x156).5 = (LL.w x134).5 ∧ (LL.w x156).6 = (LL.w x134).6 ∧ (LL.w x156).7 = (LL.w x134).7 ∧ (LL.w x156).8 = (LL.w x134).8 ∧ True) ∧ (True ∧ a.1 = a.1 ∧ a.1 = a.1 ∧ ((PA.s1
(LL.q x156)).1 = (PA.s1 (LL.q x134)).1 ∧ (PA.s1 (LL.q x156)).2 = (PA.s1 (LL.q x134)).2 ∧ (PA.s1 (LL.q x156)).3 = (PA.s1 (LL.q x134)).3 ∧ (PA.s1 (LL.q x156)).4 = (PA.s1 (LL.q
x134)).4) ∧ ((PA.s2 (LL.q x156)).1 = (PA.s2 (LL.q x134)).1 ∧ (PA.s2 (LL.q x156)).2 = (PA.s2 (LL.q x134)).2 ∧ (PA.s2 (LL.q x156)).3 = (PA.s2 (LL.q x134)).3 ∧ (PA.s2 (LL.q x156)).4 =
(PA.s2 (LL.q x134)).4) ∧ ((PA.s3 (LL.q x156)).1 = (PA.s3 (LL.q x134)).1 ∧ (PA.s3 (LL.q x156)).2 = (PA.s3 (LL.q x134)).2 ∧ (PA.s3 (LL.q x156)).3 = (PA.s3 (LL.q x134)).3 ∧ (PA.s3
(LL.q x156)).4 = (PA.s3 (LL.q x134)).4) ∧ (LL.q x156).4 = (LL.q x134).4 ∧ (LL.q x156).5 = (LL.q x134).5 ∧ (LL.q x156).6 = (LL.q x134).6 ∧ (LL.q x156).7 = (LL.q x134).7 ∧ (LL.q
x156).8 = (LL.q x134).8 ∧ x156.8 = x134.8 ∧ True) ∧ (True ∧ FlatL (PA.s1 (LL.w x156)).5 ∧ (PA.s1 (LL.w x156)).5 = (PA.s1 (LL.w x134)).5) ∧ (True ∧ FlatL (PA.s2 (LL.w x156)).5 ∧
(PA.s2 (LL.w x156)).5 = (PA.s2 (LL.w x134)).5) ∧ (True ∧ FlatL (PA.s3 (LL.w x156)).5 ∧ (PA.s3 (LL.w x156)).5 = (PA.s3 (LL.w x134)).5) ∧ (True ∧ FlatL (PA.s1 (LL.q x156)).5 ∧ (PA.s1
(LL.q x156)).5 = (PA.s1 (LL.q x134)).5) ∧ (True ∧ FlatL (PA.s2 (LL.q x156)).5 ∧ (PA.s2 (LL.q x156)).5 = (PA.s2 (LL.q x134)).5) ∧ (True ∧ FlatL (PA.s3 (LL.q x156)).5 ∧ (PA.s3 (LL.q
x156)).5 = (PA.s3 (LL.q x134)).5) ∧ (True ∧ FlatL cells0 ∧ cells0 = cells0) ∧ (True ∧ FlatL cells1 ∧ cells1 = cells1) ∧ (True ∧ FlatL cells2 ∧ cells2 = cells2) ∧ (True ∧ FlatL
cells4 ∧ cells4 = cells4) ∧ (True ∧ FlatL cells5 ∧ cells5 = cells5) ∧ (True ∧ FlatL cells6 ∧ cells6 = cells6) ∧ (True ∧ FlatL cells8 ∧ cells8 = cells8) ∧ (True ∧ FlatL cells9 ∧
cells9 = cells9) ∧ (True ∧ FlatL cells10 ∧ cells10 = cells10) ∧ True) ∧ True) ∧ ∀ (x157 : LL), ((0 : Int) ≤ x157.1 ∧ x157.1 ≤ ↑x157.3) ∧ (x157.3 ≤ (70 : Nat) ∧ x157.3 ≤ x157.4) ∧
Ir x157.5 x157.3 ∧ Twin x157.7 x157.6 → ∀ (x158 : Int), x158 = ↑x157.3 → (x157.1 < x158 → ((0 : Int) ≤ x157.1 ∧ x157.1 < ↑x157.3) ∧ ∀ (x159 : Nat), x159 = (0 : Nat) + Int.toNat
x157.1 * (1 : Nat) → ∃ (x160 : Int), Rd x157.5 (Nat.add x159 (0 : Nat)) (Value.int IntKind.i32 x160) ∧ ∀ (x161 : Int), x161 = IntKind.wrap IntKind.i32 (x160 + (1 : Int)) → ((0 :
Int) ≤ x157.1 ∧ x157.1 < ↑x157.3) ∧ ∀ (x162 : Nat), x162 = (0 : Nat) + Int.toNat x157.1 * (1 : Nat) → x162 + (1 : Nat) ≤ List.length x157.5 ∧ ∀ (x163 : List Value), x163 = lput
x157.5 x162 [Value.iface (1000000007 : Nat) (Value.int IntKind.i32 x161)] → ∀ (x164 : Int), x164 = IntKind.wrap IntKind.i64 (x157.1 + (1 : Int)) → ∃ (x165 : LL), (((0 : Int) ≤
x165.1 ∧ x165.1 ≤ ↑x165.3) ∧ (x165.3 ≤ (70 : Nat) ∧ x165.3 ≤ x165.4) ∧ Ir x165.5 x165.3 ∧ Twin x165.7 x165.6) ∧ Int.toNat (↑x165.3 - x165.1) < Int.toNat (↑x157.3 - x157.1) ∧ ((0 :
Nat) = (0 : Nat) ∧ (0 : Nat) = (0 : Nat) ∧ (0 : Nat) = (0 : Nat) ∧ (0 : Int) = (0 : Int) ∧ x165.1 = x164 ∧ True) ∧ ((True ∧ True ∧ True ∧ (x165.2 = x157.2 ∧ (0 : Nat) = (0 : Nat) ∧
x165.3 = x157.3 ∧ x165.4 = x157.4) ∧ True ∧ True ∧ True ∧ True ∧ True ∧ True ∧ True ∧ True ∧ True) ∧ (x165.4 = x157.4 ∧ FlatL x165.5 ∧ x165.5 = x163) ∧ (True ∧ ((PA.s1 (LL.w
x165)).1 = (PA.s1 (LL.w x157)).1 ∧ (PA.s1 (LL.w x165)).2 = (PA.s1 (LL.w x157)).2 ∧ (PA.s1 (LL.w x165)).3 = (PA.s1 (LL.w x157)).3 ∧ (PA.s1 (LL.w x165)).4 = (PA.s1 (LL.w x157)).4) ∧
((PA.s2 (LL.w x165)).1 = (PA.s2 (LL.w x157)).1 ∧ (PA.s2 (LL.w x165)).2 = (PA.s2 (LL.w x157)).2 ∧ (PA.s2 (LL.w x165)).3 = (PA.s2 (LL.w x157)).3 ∧ (PA.s2 (LL.w x165)).4 = (PA.s2
(LL.w x157)).4) ∧ ((PA.s3 (LL.w x165)).1 = (PA.s3 (LL.w x157)).1 ∧ (PA.s3 (LL.w x165)).2 = (PA.s3 (LL.w x157)).2 ∧ (PA.s3 (LL.w x165)).3 = (PA.s3 (LL.w x157)).3 ∧ (PA.s3 (LL.w
x165)).4 = (PA.s3 (LL.w x157)).4) ∧ (LL.w x165).4 = (LL.w x157).4 ∧ (LL.w x165).5 = (LL.w x157).5 ∧ (LL.w x165).6 = (LL.w x157).6 ∧ (LL.w x165).7 = (LL.w x157).7 ∧ (LL.w x165).8 =
(LL.w x157).8 ∧ True) ∧ (True ∧ a.1 = a.1 ∧ a.1 = a.1 ∧ ((PA.s1 (LL.q x165)).1 = (PA.s1 (LL.q x157)).1 ∧ (PA.s1 (LL.q x165)).2 = (PA.s1 (LL.q x157)).2 ∧ (PA.s1 (LL.q x165)).3 =
(PA.s1 (LL.q x157)).3 ∧ (PA.s1 (LL.q x165)).4 = (PA.s1 (LL.q x157)).4) ∧ ((PA.s2 (LL.q x165)).1 = (PA.s2 (LL.q x157)).1 ∧ (PA.s2 (LL.q x165)).2 = (PA.s2 (LL.q x157)).2 ∧ (PA.s2
(LL.q x165)).3 = (PA.s2 (LL.q x157)).3 ∧ (PA.s2 (LL.q x165)).4 = (PA.s2 (LL.q x157)).4) ∧ ((PA.s3 (LL.q x165)).1 = (PA.s3 (LL.q x157)).1 ∧ (PA.s3 (LL.q x165)).2 = (PA.s3 (LL.q
x157)).2 ∧ (PA.s3 (LL.q x165)).3 = (PA.s3 (LL.q x157)).3 ∧ (PA.s3 (LL.q x165)).4 = (PA.s3 (LL.q x157)).4) ∧ (LL.q x165).4 = (LL.q x157).4 ∧ (LL.q x165).5 = (LL.q x157).5 ∧ (LL.q
x165).6 = (LL.q x157).6 ∧ (LL.q x165).7 = (LL.q x157).7 ∧ (LL.q x165).8 = (LL.q x157).8 ∧ x165.8 = x157.8 ∧ True) ∧ (True ∧ FlatL (PA.s1 (LL.w x165)).5 ∧ (PA.s1 (LL.w x165)).5 =
(PA.s1 (LL.w x157)).5) ∧ (True ∧ FlatL (PA.s2 (LL.w x165)).5 ∧ (PA.s2 (LL.w x165)).5 = (PA.s2 (LL.w x157)).5) ∧ (True ∧ FlatL (PA.s3 (LL.w x165)).5 ∧ (PA.s3 (LL.w x165)).5 = (PA.s3
(LL.w x157)).5) ∧ (True ∧ FlatL (PA.s1 (LL.q x165)).5 ∧ (PA.s1 (LL.q x165)).5 = (PA.s1 (LL.q x157)).5) ∧ (True ∧ FlatL (PA.s2 (LL.q x165)).5 ∧ (PA.s2 (LL.q x165)).5 = (PA.s2 (LL.q
x157)).5) ∧ (True ∧ FlatL (PA.s3 (LL.q x165)).5 ∧ (PA.s3 (LL.q x165)).5 = (PA.s3 (LL.q x157)).5) ∧ (True ∧ FlatL cells0 ∧ cells0 = cells0) ∧ (True ∧ FlatL cells1 ∧ cells1 = cells1)
∧ (True ∧ FlatL cells2 ∧ cells2 = cells2) ∧ (True ∧ FlatL cells4 ∧ cells4 = cells4) ∧ (True ∧ FlatL cells5 ∧ cells5 = cells5) ∧ (True ∧ FlatL cells6 ∧ cells6 = cells6) ∧ (True ∧
FlatL cells8 ∧ cells8 = cells8) ∧ (True ∧ FlatL cells9 ∧ cells9 = cells9) ∧ (True ∧ FlatL cells10 ∧ cells10 = cells10) ∧ True) ∧ True) ∧ (¬x157.1 < x158 → (True ∧ True) ∧ (True ∧
(True ∧ FlatL cells0 ∧ cells0 = cells0) ∧ (True ∧ FlatL cells1 ∧ cells1 = cells1) ∧ (True ∧ FlatL cells2 ∧ cells2 = cells2) ∧ (True ∧ FlatL cells4 ∧ cells4 = cells4) ∧ (True ∧
FlatL cells5 ∧ cells5 = cells5) ∧ (True ∧ FlatL cells6 ∧ cells6 = cells6) ∧ (True ∧ FlatL cells8 ∧ cells8 = cells8) ∧ (True ∧ FlatL cells9 ∧ cells9 = cells9) ∧ (True ∧ FlatL
cells10 ∧ cells10 = cells10) ∧ True) ∧ (∀ (x166 : Unit), True → (True ∧ (∃ (x167 : PX), PH (PA.mk (SA.mk (PA.s1 (LL.q x157)).1 (PA.s1 (LL.q x157)).2 (PA.s1 (LL.q x157)).3 (PA.s1
(LL.q x157)).4 (PA.s1 (LL.q x157)).5) (SA.mk (PA.s2 (LL.q x157)).1 (PA.s2 (LL.q x157)).2 (PA.s2 (LL.q x157)).3 (PA.s2 (LL.q x157)).4 (PA.s2 (LL.q x157)).5) (SA.mk (PA.s3 (LL.q
x157)).1 (PA.s3 (LL.q x157)).2 (PA.s3 (LL.q x157)).3 (PA.s3 (LL.q x157)).4 (PA.s3 (LL.q x157)).5) (LL.q x157).4 (LL.q x157).5 (LL.q x157).6 (LL.q x157).7 (LL.q x157).8) x167) ∧
(PA.s3 (LL.q x157)).3 ≤ (100 : Nat)) ∧ (((((PA.s1 (LL.q x157)).1 = (PA.s1 (LL.q x157)).1 ∧ (PA.s1 (LL.q x157)).2 = (PA.s1 (LL.q x157)).2 ∧ (PA.s1 (LL.q x157)).3 = (PA.s1 (LL.q
x157)).3 ∧ (PA.s1 (LL.q x157)).4 = (PA.s1 (LL.q x157)).4) ∧ ((PA.s2 (LL.q x157)).1 = (PA.s2 (LL.q x157)).1 ∧ (PA.s2 (LL.q x157)).2 = (PA.s2 (LL.q x157)).2 ∧ (PA.s2 (LL.q x157)).3 =
(PA.s2 (LL.q x157)).3 ∧ (PA.s2 (LL.q x157)).4 = (PA.s2 (LL.q x157)).4) ∧ ((PA.s3 (LL.q x157)).1 = (PA.s3 (LL.q x157)).1 ∧ (PA.s3 (LL.q x157)).2 = (PA.s3 (LL.q x157)).2 ∧ (PA.s3
(LL.q x157)).3 = (PA.s3 (LL.q x157)).3 ∧ (PA.s3 (LL.q x157)).4 = (PA.s3 (LL.q x157)).4) ∧ (LL.q x157).4 = (LL.q x157).4 ∧ (LL.q x157).5 = (LL.q x157).5 ∧ (LL.q x157).6 = (LL.q
x157).6 ∧ (LL.q x157).7 = (LL.q x157).7 ∧ (LL.q x157).8 = (LL.q x157).8 ∧ True) ∧ True) ∧ (True ∧ FlatL (PA.s1 (LL.q x157)).5 ∧ (PA.s1 (LL.q x157)).5 = (PA.s1 (LL.q x157)).5) ∧
(True ∧ FlatL (PA.s2 (LL.q x157)).5 ∧ (PA.s2 (LL.q x157)).5 = (PA.s2 (LL.q x157)).5) ∧ (True ∧ FlatL (PA.s3 (LL.q x157)).5 ∧ (PA.s3 (LL.q x157)).5 = (PA.s3 (LL.q x157)).5) ∧ True)
∧ (∀ (x168 : RN), (∀ (x169 : List Int), Sli (Value.int IntKind.u8) (8 : Nat) (PA.s3 (LL.q x157)).1 (PA.s3 (LL.q x157)).2 (PA.s3 (LL.q x157)).3 (PA.s3 (LL.q x157)).4 (PA.s3 (LL.q
x157)).5 x169 → Sli (Value.int IntKind.u8) (8 : Nat) x168.1 (0 : Nat) (PA.s3 (LL.q x157)).3 x168.2 x168.3 x169) → (True ∧ ((∃ (x170 : PX), PH (PA.mk (SA.mk (PA.s1 (LL.q x157)).1
(PA.s1 (LL.q x157)).2 (PA.s1 (LL.q x157)).3 (PA.s1 (LL.q x157)).4 (PA.s1 (LL.q x157)).5) (SA.mk (PA.s2 (LL.q x157)).1 (PA.s2 (LL.q x157)).2 (PA.s2 (LL.q x157)).3 (PA.s2 (LL.q
x157)).4 (PA.s2 (LL.q x157)).5) (SA.mk x168.1 (nat_lit 0) (PA.s3 (LL.q x157)).3 x168.2 x168.3) (LL.q x157).4 (LL.q x157).5 (LL.q x157).6 (LL.q x157).7 (LL.q x157).8) x170 ∧ PW
(PA.mk (SA.mk (PA.s1 (LL.q x157)).1 (PA.s1 (LL.q x157)).2 (PA.s1 (LL.q x157)).3 (PA.s1 (LL.q x157)).4 (PA.s1 (LL.q x157)).5) (SA.mk (PA.s2 (LL.q x157)).1 (PA.s2 (LL.q x157)).2
(PA.s2 (LL.q x157)).3 (PA.s2 (LL.q x157)).4 (PA.s2 (LL.q x157)).5) (SA.mk x168.1 (nat_lit 0) (PA.s3 (LL.q x157)).3 x168.2 x168.3) (LL.q x157).4 (LL.q x157).5 (LL.q x157).6 (LL.q
x157).7 (LL.q x157).8) x170) ∧ ∃ (x171 : PX), PH (PA.mk (SA.mk (PA.s1 (LL.w x157)).1 (PA.s1 (LL.w x157)).2 (PA.s1 (LL.w x157)).3 (PA.s1 (LL.w x157)).4 (PA.s1 (LL.w x157)).5) (SA.mk
(PA.s2 (LL.w x157)).1 (PA.s2 (LL.w x157)).2 (PA.s2 (LL.w x157)).3 (PA.s2 (LL.w x157)).4 (PA.s2 (LL.w x157)).5) (SA.mk (PA.s3 (LL.w x157)).1 (PA.s3 (LL.w x157)).2 (PA.s3 (LL.w
x157)).3 (PA.s3 (LL.w x157)).4 (PA.s3 (LL.w x157)).5) (LL.w x157).4 (LL.w x157).5 (LL.w x157).6 (LL.w x157).7 (LL.w x157).8) x171 ∧ PW (PA.mk (SA.mk (PA.s1 (LL.w x157)).1 (PA.s1
(LL.w x157)).2 (PA.s1 (LL.w x157)).3 (PA.s1 (LL.w x157)).4 (PA.s1 (LL.w x157)).5) (SA.mk (PA.s2 (LL.w x157)).1 (PA.s2 (LL.w x157)).2 (PA.s2 (LL.w x157)).3 (PA.s2 (LL.w x157)).4
(PA.s2 (LL.w x157)).5) (SA.mk (PA.s3 (LL.w x157)).1 (PA.s3 (LL.w x157)).2 (PA.s3 (LL.w x157)).3 (PA.s3 (LL.w x157)).4 (PA.s3 (LL.w x157)).5) (LL.w x157).4 (LL.w x157).5 (LL.w
x157).6 (LL.w x157).7 (LL.w x157).8) x171) ∧ ((PA.s1 (LL.q x157)).3 ≤ (70 : Nat) ∧ (PA.s2 (LL.q x157)).3 ≤ (10 : Nat) ∧ (PA.s3 (LL.q x157)).3 ≤ (10 : Nat)) ∧ (PA.s1 (LL.w x157)).3
≤ (70 : Nat) ∧ (PA.s2 (LL.w x157)).3 ≤ (10 : Nat) ∧ (PA.s3 (LL.w x157)).3 ≤ (10 : Nat)) ∧ (((((PA.s1 (LL.q x157)).1 = (PA.s1 (LL.q x157)).1 ∧ (PA.s1 (LL.q x157)).2 = (PA.s1 (LL.q
x157)).2 ∧ (PA.s1 (LL.q x157)).3 = (PA.s1 (LL.q x157)).3 ∧ (PA.s1 (LL.q x157)).4 = (PA.s1 (LL.q x157)).4) ∧ ((PA.s2 (LL.q x157)).1 = (PA.s2 (LL.q x157)).1 ∧ (PA.s2 (LL.q x157)).2 =
(PA.s2 (LL.q x157)).2 ∧ (PA.s2 (LL.q x157)).3 = (PA.s2 (LL.q x157)).3 ∧ (PA.s2 (LL.q x157)).4 = (PA.s2 (LL.q x157)).4) ∧ (x168.1 = x168.1 ∧ nat_lit 0 = (0 : Nat) ∧ (PA.s3 (LL.q
x157)).3 = (PA.s3 (LL.q x157)).3 ∧ x168.2 = x168.2) ∧ (LL.q x157).4 = (LL.q x157).4 ∧ (LL.q x157).5 = (LL.q x157).5 ∧ (LL.q x157).6 = (LL.q x157).6 ∧ (LL.q x157).7 = (LL.q x157).7
∧ (LL.q x157).8 = (LL.q x157).8 ∧ True) ∧ (((PA.s1 (LL.w x157)).1 = (PA.s1 (LL.w x157)).1 ∧ (PA.s1 (LL.w x157)).2 = (PA.s1 (LL.w x157)).2 ∧ (PA.s1 (LL.w x157)).3 = (PA.s1 (LL.w
x157)).3 ∧ (PA.s1 (LL.w x157)).4 = (PA.s1 (LL.w x157)).4) ∧ ((PA.s2 (LL.w x157)).1 = (PA.s2 (LL.w x157)).1 ∧ (PA.s2 (LL.w x157)).2 = (PA.s2 (LL.w x157)).2 ∧ (PA.s2 (LL.w x157)).3 =
(PA.s2 (LL.w x157)).3 ∧ (PA.s2 (LL.w x157)).4 = (PA.s2 (LL.w x157)).4) ∧ ((PA.s3 (LL.w x157)).1 = (PA.s3 (LL.w x157)).1 ∧ (PA.s3 (LL.w x157)).2 = (PA.s3 (LL.w x157)).2 ∧ (PA.s3
(LL.w x157)).3 = (PA.s3 (LL.w x157)).3 ∧ (PA.s3 (LL.w x157)).4 = (PA.s3 (LL.w x157)).4) ∧ (LL.w x157).4 = (LL.w x157).4 ∧ (LL.w x157).5 = (LL.w x157).5 ∧ (LL.w x157).6 = (LL.w
x157).6 ∧ (LL.w x157).7 = (LL.w x157).7 ∧ (LL.w x157).8 = (LL.w x157).8 ∧ True) ∧ True) ∧ (True ∧ FlatL (PA.s1 (LL.q x157)).5 ∧ (PA.s1 (LL.q x157)).5 = (PA.s1 (LL.q x157)).5) ∧
(True ∧ FlatL (PA.s2 (LL.q x157)).5 ∧ (PA.s2 (LL.q x157)).5 = (PA.s2 (LL.q x157)).5) ∧ (True ∧ FlatL x168.3 ∧ x168.3 = x168.3) ∧ (True ∧ FlatL (PA.s1 (LL.w x157)).5 ∧ (PA.s1 (LL.w
x157)).5 = (PA.s1 (LL.w x157)).5) ∧ (True ∧ FlatL (PA.s2 (LL.w x157)).5 ∧ (PA.s2 (LL.w x157)).5 = (PA.s2 (LL.w x157)).5) ∧ (True ∧ FlatL (PA.s3 (LL.w x157)).5 ∧ (PA.s3 (LL.w
x157)).5 = (PA.s3 (LL.w x157)).5) ∧ True) ∧ (∀ (x172 : BL), (∀ (x173 x174 : PX), PH (PA.mk (SA.mk (PA.s1 (LL.q x157)).1 (PA.s1 (LL.q x157)).2 (PA.s1 (LL.q x157)).3 (PA.s1 (LL.q
x157)).4 (PA.s1 (LL.q x157)).5) (SA.mk (PA.s2 (LL.q x157)).1 (PA.s2 (LL.q x157)).2 (PA.s2 (LL.q x157)).3 (PA.s2 (LL.q x157)).4 (PA.s2 (LL.q x157)).5) (SA.mk x168.1 (nat_lit 0)
(PA.s3 (LL.q x157)).3 x168.2 x168.3) (LL.q x157).4 (LL.q x157).5 (LL.q x157).6 (LL.q x157).7 (LL.q x157).8) x173 → PH (PA.mk (SA.mk (PA.s1 (LL.w x157)).1 (PA.s1 (LL.w x157)).2
(PA.s1 (LL.w x157)).3 (PA.s1 (LL.w x157)).4 (PA.s1 (LL.w x157)).5) (SA.mk (PA.s2 (LL.w x157)).1 (PA.s2 (LL.w x157)).2 (PA.s2 (LL.w x157)).3 (PA.s2 (LL.w x157)).4 (PA.s2 (LL.w
x157)).5) (SA.mk (PA.s3 (LL.w x157)).1 (PA.s3 (LL.w x157)).2 (PA.s3 (LL.w x157)).3 (PA.s3 (LL.w x157)).4 (PA.s3 (LL.w x157)).5) (LL.w x157).4 (LL.w x157).5 (LL.w x157).6 (LL.w
x157).7 (LL.w x157).8) x174 → (x172.1 = Bool.true ↔ enc (PA.mk (SA.mk (PA.s1 (LL.q x157)).1 (PA.s1 (LL.q x157)).2 (PA.s1 (LL.q x157)).3 (PA.s1 (LL.q x157)).4 (PA.s1 (LL.q x157)).5)
(SA.mk (PA.s2 (LL.q x157)).1 (PA.s2 (LL.q x157)).2 (PA.s2 (LL.q x157)).3 (PA.s2 (LL.q x157)).4 (PA.s2 (LL.q x157)).5) (SA.mk x168.1 (nat_lit 0) (PA.s3 (LL.q x157)).3 x168.2 x168.3)
(LL.q x157).4 (LL.q x157).5 (LL.q x157).6 (LL.q x157).7 (LL.q x157).8) x173 = enc (PA.mk (SA.mk (PA.s1 (LL.w x157)).1 (PA.s1 (LL.w x157)).2 (PA.s1 (LL.w x157)).3 (PA.s1 (LL.w
x157)).4 (PA.s1 (LL.w x157)).5) (SA.mk (PA.s2 (LL.w x157)).1 (PA.s2 (LL.w x157)).2 (PA.s2 (LL.w x157)).3 (PA.s2 (LL.w x157)).4 (PA.s2 (LL.w x157)).5) (SA.mk (PA.s3 (LL.w x157)).1
(PA.s3 (LL.w x157)).2 (PA.s3 (LL.w x157)).3 (PA.s3 (LL.w x157)).4 (PA.s3 (LL.w x157)).5) (LL.w x157).4 (LL.w x157).5 (LL.w x157).6 (LL.w x157).7 (LL.w x157).8) x174)) → (True ∧
True ∧ True ∧ True ∧ True ∧ True ∧ True ∧ True ∧ True ∧ (W_G_apart_0 x157 = W_G_apart_0 x157 ∧ True) ∧ True ∧ True ∧ True ∧ True) ∧ ∃ (x175 : Unit), True ∧ Bool.true = x172.1 ∧
True) ∧ True) ∧ True) ∧ True)) ∧ True) ∧ (x148.1 = Bool.false → (True ∧ True ∧ True ∧ (W_G_apart_0 x134 = W_G_apart_0 x134 ∧ True) ∧ True ∧ True ∧ True) ∧ ∃ (x176 : Unit), True ∧
Bool.true = Bool.false ∧ True)) ∧ True) ∧ True)) ∧ True) ∧ True) ∧ True) ∧ (¬(0 : Nat) + Min.min (PA.s1 (AA.p a)).3 (70 : Nat) ≤ (0 : Nat) → Few ((0 : Nat) + Min.min (PA.s1 (AA.p
a)).3 (70 : Nat)) (4 : Nat) ∧ (0 : Nat) ≤ (0 : Nat) ∧ ∀ (x177 : Nat) (x178 : List Value), x177 = (0 : Nat) + Min.min (PA.s1 (AA.p a)).3 (70 : Nat) → x178 = lwin [] (0 : Nat) (0 :
Nat) ++ x120 → (True ∧ (∃ (x179 : PX), PH (PA.mk (SA.mk Bool.false (nat_lit 0) x177 x177 x178) (SA.mk (PA.s2 (AA.p a)).1 (nat_lit 0) (Min.min (PA.s2 (AA.p a)).3 (10 : Nat)) (PB.b2
x3).1 (PB.b2 x3).2) (SA.mk (PA.s3 (AA.p a)).1 (nat_lit 0) (Min.min (PA.s3 (AA.p a)).3 (10 : Nat)) (PB.b3 x3).1 (PB.b3 x3).2) (AA.p a).4 (AA.p a).5 (AA.p a).6 (AA.p a).7 (AA.p a).8)
x179) ∧ x177 ≤ (100 : Nat) ∧ Min.min (PA.s2 (AA.p a)).3 (10 : Nat) ≤ (100 : Nat) ∧ Min.min (PA.s3 (AA.p a)).3 (10 : Nat) ≤ (100 : Nat)) ∧ ((((Bool.false = Bool.false ∧ nat_lit 0 =
(0 : Nat) ∧ x177 = x177 ∧ x177 = x177) ∧ ((PA.s2 (AA.p a)).1 = (PA.s2 (AA.p a)).1 ∧ nat_lit 0 = (0 : Nat) ∧ Min.min (PA.s2 (AA.p a)).3 (10 : Nat) = Min.min (PA.s2 (AA.p a)).3 (10 :
Nat) ∧ (PB.b2 x3).1 = (PB.b2 x3).1) ∧ ((PA.s3 (AA.p a)).1 = (PA.s3 (AA.p a)).1 ∧ nat_lit 0 = (0 : Nat) ∧ Min.min (PA.s3 (AA.p a)).3 (10 : Nat) = Min.min (PA.s3 (AA.p a)).3 (10 :
Nat) ∧ (PB.b3 x3).1 = (PB.b3 x3).1) ∧ (AA.p a).4 = (AA.p a).4 ∧ (AA.p a).5 = (AA.p a).5 ∧ (AA.p a).6 = (AA.p a).6 ∧ (AA.p a).7 = (AA.p a).7 ∧ (AA.p a).8 = (AA.p a).8 ∧ True) ∧
True) ∧ (True ∧ FlatL x178 ∧ x178 = x178) ∧ (True ∧ FlatL (PB.b2 x3).2 ∧ (PB.b2 x3).2 = (PB.b2 x3).2) ∧ (True ∧ FlatL (PB.b3 x3).2 ∧ (PB.b3 x3).2 = (PB.b3 x3).2) ∧ True) ∧ (∀ (x180
: PB), (∀ (x181 : PX), PH (PA.mk (SA.mk Bool.false (nat_lit 0) x177 x177 x178) (SA.mk (PA.s2 (AA.p a)).1 (nat_lit 0) (Min.min (PA.s2 (AA.p a)).3 (10 : Nat)) (PB.b2 x3).1 (PB.b2
x3).2) (SA.mk (PA.s3 (AA.p a)).1 (nat_lit 0) (Min.min (PA.s3 (AA.p a)).3 (10 : Nat)) (PB.b3 x3).1 (PB.b3 x3).2) (AA.p a).4 (AA.p a).5 (AA.p a).6 (AA.p a).7 (AA.p a).8) x181 → PH
(PA.mk (SA.mk Bool.false (0 : Nat) x177 (PB.b1 x180).1 (PB.b1 x180).2) (SA.mk (PA.s2 (AA.p a)).1 (0 : Nat) (Min.min (PA.s2 (AA.p a)).3 (10 : Nat)) (PB.b2 x180).1 (PB.b2 x180).2)
(SA.mk (PA.s3 (AA.p a)).1 (0 : Nat) (Min.min (PA.s3 (AA.p a)).3 (10 : Nat)) (PB.b3 x180).1 (PB.b3 x180).2) (AA.p a).4 (AA.p a).5 (AA.p a).6 (AA.p a).7 (AA.p a).8) x181) → (True ∧
(∃ (x182 : PX), PH (PA.mk (SA.mk Bool.false (nat_lit 0) x177 (PB.b1 x180).1 (PB.b1 x180).2) (SA.mk (PA.s2 (AA.p a)).1 (nat_lit 0) (Min.min (PA.s2 (AA.p a)).3 (10 : Nat)) (PB.b2
x180).1 (PB.b2 x180).2) (SA.mk (PA.s3 (AA.p a)).1 (nat_lit 0) (Min.min (PA.s3 (AA.p a)).3 (10 : Nat)) (PB.b3 x180).1 (PB.b3 x180).2) (AA.p a).4 (AA.p a).5 (AA.p a).6 (AA.p a).7
(AA.p a).8) x182) ∧ Min.min (PA.s3 (AA.p a)).3 (10 : Nat) ≤ (100 : Nat)) ∧ ((((Bool.false = Bool.false ∧ nat_lit 0 = (0 : Nat) ∧ x177 = x177 ∧ (PB.b1 x180).1 = (PB.b1 x180).1) ∧
((PA.s2 (AA.p a)).1 = (PA.s2 (AA.p a)).1 ∧ nat_lit 0 = (0 : Nat) ∧ Min.min (PA.s2 (AA.p a)).3 (10 : Nat) = Min.min (PA.s2 (AA.p a)).3 (10 : Nat) ∧ (PB.b2 x180).1 = (PB.b2 x180).1)
∧ ((PA.s3 (AA.p a)).1 = (PA.s3 (AA.p a)).1 ∧ nat_lit 0 = (0 : Nat) ∧ Min.min (PA.s3 (AA.p a)).3 (10 : Nat) = Min.min (PA.s3 (AA.p a)).3 (10 : Nat) ∧ (PB.b3 x180).1 = (PB.b3
x180).1) ∧ (AA.p a).4 = (AA.p a).4 ∧ (AA.p a).5 = (AA.p a).5 ∧ (AA.p a).6 = (AA.p a).6 ∧ (AA.p a).7 = (AA.p a).7 ∧ (AA.p a).8 = (AA.p a).8 ∧ True) ∧ True) ∧ (True ∧ FlatL (PB.b1
x180).2 ∧ (PB.b1 x180).2 = (PB.b1 x180).2) ∧ (True ∧ FlatL (PB.b2 x180).2 ∧ (PB.b2 x180).2 = (PB.b2 x180).2) ∧ (True ∧ FlatL (PB.b3 x180).2 ∧ (PB.b3 x180).2 = (PB.b3 x180).2) ∧
True) ∧ (∀ (x183 : RN), (∀ (x184 : List Int), Sli (Value.int IntKind.u8) (8 : Nat) (PA.s3 (AA.p a)).1 (nat_lit 0) (Min.min (PA.s3 (AA.p a)).3 (10 : Nat)) (PB.b3 x180).1 (PB.b3
x180).2 x184 → Sli (Value.int IntKind.u8) (8 : Nat) x183.1 (0 : Nat) (Min.min (PA.s3 (AA.p a)).3 (10 : Nat)) x183.2 x183.3 x184) → ∀ (x185 : Int), x185 = IntKind.wrap IntKind.i64
a.1 → (True ∧ (∃ (x186 : PX), PH (PA.mk (SA.mk Bool.false (nat_lit 0) x177 x177 x178) (SA.mk (PA.s2 (AA.p a)).1 (nat_lit 0) (Min.min (PA.s2 (AA.p a)).3 (10 : Nat)) (PB.b2 x3).1
(PB.b2 x3).2) (SA.mk (PA.s3 (AA.p a)).1 (nat_lit 0) (Min.min (PA.s3 (AA.p a)).3 (10 : Nat)) (PB.b3 x3).1 (PB.b3 x3).2) (AA.p a).4 (AA.p a).5 (AA.p a).6 (AA.p a).7 (AA.p a).8) x186)
∧ wthn x185 (Int.ofNat (3 : Nat)) (Int.ofNat (4 : Nat)) = (0 : Int) ∧ x177 ≤ (100 : Nat) ∧ Min.min (PA.s2 (AA.p a)).3 (10 : Nat) ≤ (100 : Nat) ∧ Min.min (PA.s3 (AA.p a)).3 (10 :
Nat) ≤ (100 : Nat)) ∧ ((x185 = x185 ∧ ((Bool.false = Bool.false ∧ nat_lit 0 = (0 : Nat) ∧ x177 = x177 ∧ x177 = x177) ∧ ((PA.s2 (AA.p a)).1 = (PA.s2 (AA.p a)).1 ∧ nat_lit 0 = (0 :
Nat) ∧ Min.min (PA.s2 (AA.p a)).3 (10 : Nat) = Min.min (PA.s2 (AA.p a)).3 (10 : Nat) ∧ (PB.b2 x3).1 = (PB.b2 x3).1) ∧ ((PA.s3 (AA.p a)).1 = (PA.s3 (AA.p a)).1 ∧ nat_lit 0 = (0 :
Nat) ∧ Min.min (PA.s3 (AA.p a)).3 (10 : Nat) = Min.min (PA.s3 (AA.p a)).3 (10 : Nat) ∧ (PB.b3 x3).1 = (PB.b3 x3).1) ∧ (AA.p a).4 = (AA.p a).4 ∧ (AA.p a).5 = (AA.p a).5 ∧ (AA.p a).6
= (AA.p a).6 ∧ (AA.p a).7 = (AA.p a).7 ∧ (AA.p a).8 = (AA.p a).8 ∧ True) ∧ Int.ofNat (3 : Nat) = (3 : Int) ∧ Int.ofNat (4 : Nat) = (4 : Int) ∧ True) ∧ (True ∧ FlatL x178 ∧ x178 =
x178) ∧ (True ∧ FlatL (PB.b2 x3).2 ∧ (PB.b2 x3).2 = (PB.b2 x3).2) ∧ (True ∧ FlatL (PB.b3 x3).2 ∧ (PB.b3 x3).2 = (PB.b3 x3).2) ∧ True) ∧ (∀ (x187 : PB), (∀ (x188 : PX), PH (PA.mk
(SA.mk Bool.false (nat_lit 0) x177 x177 x178) (SA.mk (PA.s2 (AA.p a)).1 (nat_lit 0) (Min.min (PA.s2 (AA.p a)).3 (10 : Nat)) (PB.b2 x3).1 (PB.b2 x3).2) (SA.mk (PA.s3 (AA.p a)).1
(nat_lit 0) (Min.min (PA.s3 (AA.p a)).3 (10 : Nat)) (PB.b3 x3).1 (PB.b3 x3).2) (AA.p a).4 (AA.p a).5 (AA.p a).6 (AA.p a).7 (AA.p a).8) x188 → PH (PA.mk (SA.mk Bool.false (0 : Nat)
x177 (PB.b1 x187).1 (PB.b1 x187).2) (SA.mk (PA.s2 (AA.p a)).1 (0 : Nat) (Min.min (PA.s2 (AA.p a)).3 (10 : Nat)) (PB.b2 x187).1 (PB.b2 x187).2) (SA.mk (PA.s3 (AA.p a)).1 (0 : Nat)
(Min.min (PA.s3 (AA.p a)).3 (10 : Nat)) (PB.b3 x187).1 (PB.b3 x187).2) (AA.p a).4 (AA.p a).5 (AA.p a).6 (AA.p a).7 (AA.p a).8) x188) → ∃ (x189 : LL), (((0 : Int) ≤ x189.1 ∧ x189.1
≤ ↑x189.3) ∧ (x189.3 ≤ (70 : Nat) ∧ x189.3 ≤ x189.4) ∧ Ir x189.5 x189.3 ∧ Twin x189.7 x189.6) ∧ ((a.1 = a.1 ∧ (0 : Nat) = (0 : Nat) ∧ (0 : Nat) = (0 : Nat) ∧ (0 : Nat) = (0 : Nat)
∧ x189.1 = (0 : Int) ∧ True) ∧ ((True ∧ ((0 : Nat) = (0 : Nat) ∧ x189.3 = x177 ∧ x189.4 = x177) ∧ True ∧ True ∧ True ∧ True ∧ True ∧ True ∧ True ∧ True) ∧ (x189.4 = x177 ∧ FlatL
x189.5 ∧ x189.5 = x178) ∧ (True ∧ ((PA.s1 (LL.w x189)).1 = Bool.false ∧ (PA.s1 (LL.w x189)).2 = nat_lit 0 ∧ (PA.s1 (LL.w x189)).3 = x177 ∧ (PA.s1 (LL.w x189)).4 = (PB.b1 x180).1) ∧
((PA.s2 (LL.w x189)).1 = (PA.s2 (AA.p a)).1 ∧ (PA.s2 (LL.w x189)).2 = nat_lit 0 ∧ (PA.s2 (LL.w x189)).3 = Min.min (PA.s2 (AA.p a)).3 (10 : Nat) ∧ (PA.s2 (LL.w x189)).4 = (PB.b2
x180).1) ∧ ((PA.s3 (LL.w x189)).1 = x183.1 ∧ (PA.s3 (LL.w x189)).2 = (0 : Nat) ∧ (PA.s3 (LL.w x189)).3 = Min.min (PA.s3 (AA.p a)).3 (10 : Nat) ∧ (PA.s3 (LL.w x189)).4 = x183.2) ∧
(LL.w x189).4 = (AA.p a).4 ∧ (LL.w x189).5 = (AA.p a).5 ∧ (LL.w x189).6 = (AA.p a).6 ∧ (LL.w x189).7 = (AA.p a).7 ∧ (LL.w x189).8 = (AA.p a).8 ∧ True) ∧ (True ∧ a.1 = x185 ∧ a.1 =
x185 ∧ ((PA.s1 (LL.q x189)).1 = Bool.false ∧ (PA.s1 (LL.q x189)).2 = (0 : Nat) ∧ (PA.s1 (LL.q x189)).3 = x177 ∧ (PA.s1 (LL.q x189)).4 = (PB.b1 x187).1) ∧ ((PA.s2 (LL.q x189)).1 =
(PA.s2 (AA.p a)).1 ∧ (PA.s2 (LL.q x189)).2 = (0 : Nat) ∧ (PA.s2 (LL.q x189)).3 = Min.min (PA.s2 (AA.p a)).3 (10 : Nat) ∧ (PA.s2 (LL.q x189)).4 = (PB.b2 x187).1) ∧ ((PA.s3 (LL.q
x189)).1 = (PA.s3 (AA.p a)).1 ∧ (PA.s3 (LL.q x189)).2 = (0 : Nat) ∧ (PA.s3 (LL.q x189)).3 = Min.min (PA.s3 (AA.p a)).3 (10 : Nat) ∧ (PA.s3 (LL.q x189)).4 = (PB.b3 x187).1) ∧ (LL.q
x189).4 = (AA.p a).4 ∧ (LL.q x189).5 = (AA.p a).5 ∧ (LL.q x189).6 = (AA.p a).6 ∧ (LL.q x189).7 = (AA.p a).7 ∧ (LL.q x189).8 = (AA.p a).8 ∧ x189.8 = Int.ofNat (3 : Nat) + Int.ofNat
(4 : Nat) ∧ True) ∧ (True ∧ FlatL (PA.s1 (LL.w x189)).5 ∧ (PA.s1 (LL.w x189)).5 = (PB.b1 x180).2) ∧ (True ∧ FlatL (PA.s2 (LL.w x189)).5 ∧ (PA.s2 (LL.w x189)).5 = (PB.b2 x180).2) ∧
(True ∧ FlatL (PA.s3 (LL.w x189)).5 ∧ (PA.s3 (LL.w x189)).5 = x183.3) ∧ (True ∧ FlatL (PA.s1 (LL.q x189)).5 ∧ (PA.s1 (LL.q x189)).5 = (PB.b1 x187).2) ∧ (True ∧ FlatL (PA.s2 (LL.q
x189)).5 ∧ (PA.s2 (LL.q x189)).5 = (PB.b2 x187).2) ∧ (True ∧ FlatL (PA.s3 (LL.q x189)).5 ∧ (PA.s3 (LL.q x189)).5 = (PB.b3 x187).2) ∧ (True ∧ FlatL cells0 ∧ cells0 = cells0) ∧ (True
∧ FlatL cells1 ∧ cells1 = cells1) ∧ (True ∧ FlatL cells2 ∧ cells2 = cells2) ∧ (True ∧ FlatL cells4 ∧ cells4 = cells4) ∧ (True ∧ FlatL cells5 ∧ cells5 = cells5) ∧ (True ∧ FlatL
cells6 ∧ cells6 = cells6) ∧ (True ∧ FlatL cells8 ∧ cells8 = cells8) ∧ (True ∧ FlatL cells9 ∧ cells9 = cells9) ∧ (True ∧ FlatL cells10 ∧ cells10 = cells10) ∧ True) ∧ True) ∧ ∀ (x190
: LL), ((0 : Int) ≤ x190.1 ∧ x190.1 ≤ ↑x190.3) ∧ (x190.3 ≤ (70 : Nat) ∧ x190.3 ≤ x190.4) ∧ Ir x190.5 x190.3 ∧ Twin x190.7 x190.6 → ∀ (x191 : Int), x191 = ↑x190.3 → (x190.1 < x191 →
((0 : Int) ≤ x190.1 ∧ x190.1 < ↑x190.3) ∧ ∀ (x192 : Nat), x192 = (0 : Nat) + Int.toNat x190.1 * (1 : Nat) → ∃ (x193 : Int), Rd x190.5 (Nat.add x192 (0 : Nat)) (Value.int
IntKind.i32 x193) ∧ ∀ (x194 : Int), x194 = IntKind.wrap IntKind.i32 (x193 + (1 : Int)) → ((0 : Int) ≤ x190.1 ∧ x190.1 < ↑x190.3) ∧ ∀ (x195 : Nat), x195 = (0 : Nat) + Int.toNat
x190.1 * (1 : Nat) → x195 + (1 : Nat) ≤ List.length x190.5 ∧ ∀ (x196 : List Value), x196 = lput x190.5 x195 [Value.iface (1000000007 : Nat) (Value.int IntKind.i32 x194)] → ∀ (x197
: Int), x197 = IntKind.wrap IntKind.i64 (x190.1 + (1 : Int)) → ∃ (x198 : LL), (((0 : Int) ≤ x198.1 ∧ x198.1 ≤ ↑x198.3) ∧ (x198.3 ≤ (70 : Nat) ∧ x198.3 ≤ x198.4) ∧ Ir x198.5 x198.3
∧ Twin x198.7 x198.6) ∧ Int.toNat (↑x198.3 - x198.1) < Int.toNat (↑x190.3 - x190.1) ∧ (a.1 = a.1 ∧ (0 : Nat) = (0 : Nat) ∧ (0 : Nat) = (0 : Nat) ∧ (0 : Nat) = (0 : Nat) ∧ x198.1 =
x197 ∧ True) ∧ ((True ∧ ((0 : Nat) = (0 : Nat) ∧ x198.3 = x190.3 ∧ x198.4 = x190.4) ∧ True ∧ True ∧ True ∧ True ∧ True ∧ True ∧ True ∧ True) ∧ (x198.4 = x190.4 ∧ FlatL x198.5 ∧
x198.5 = x196) ∧ (True ∧ ((PA.s1 (LL.w x198)).1 = (PA.s1 (LL.w x190)).1 ∧ (PA.s1 (LL.w x198)).2 = (PA.s1 (LL.w x190)).2 ∧ (PA.s1 (LL.w x198)).3 = (PA.s1 (LL.w x190)).3 ∧ (PA.s1
(LL.w x198)).4 = (PA.s1 (LL.w x190)).4) ∧ ((PA.s2 (LL.w x198)).1 = (PA.s2 (LL.w x190)).1 ∧ (PA.s2 (LL.w x198)).2 = (PA.s2 (LL.w x190)).2 ∧ (PA.s2 (LL.w x198)).3 = (PA.s2 (LL.w
x190)).3 ∧ (PA.s2 (LL.w x198)).4 = (PA.s2 (LL.w x190)).4) ∧ ((PA.s3 (LL.w x198)).1 = (PA.s3 (LL.w x190)).1 ∧ (PA.s3 (LL.w x198)).2 = (PA.s3 (LL.w x190)).2 ∧ (PA.s3 (LL.w x198)).3 =
(PA.s3 (LL.w x190)).3 ∧ (PA.s3 (LL.w x198)).4 = (PA.s3 (LL.w x190)).4) ∧ (LL.w x198).4 = (LL.w x190).4 ∧ (LL.w x198).5 = (LL.w x190).5 ∧ (LL.w x198).6 = (LL.w x190).6 ∧ (LL.w
x198).7 = (LL.w x190).7 ∧ (LL.w x198).8 = (LL.w x190).8 ∧ True) ∧ (True ∧ a.1 = a.1 ∧ a.1 = a.1 ∧ ((PA.s1 (LL.q x198)).1 = (PA.s1 (LL.q x190)).1 ∧ (PA.s1 (LL.q x198)).2 = (PA.s1
(LL.q x190)).2 ∧ (PA.s1 (LL.q x198)).3 = (PA.s1 (LL.q x190)).3 ∧ (PA.s1 (LL.q x198)).4 = (PA.s1 (LL.q x190)).4) ∧ ((PA.s2 (LL.q x198)).1 = (PA.s2 (LL.q x190)).1 ∧ (PA.s2 (LL.q
x198)).2 = (PA.s2 (LL.q x190)).2 ∧ (PA.s2 (LL.q x198)).3 = (PA.s2 (LL.q x190)).3 ∧ (PA.s2 (LL.q x198)).4 = (PA.s2 (LL.q x190)).4) ∧ ((PA.s3 (LL.q x198)).1 = (PA.s3 (LL.q x190)).1 ∧
(PA.s3 (LL.q x198)).2 = (PA.s3 (LL.q x190)).2 ∧ (PA.s3 (LL.q x198)).3 = (PA.s3 (LL.q x190)).3 ∧ (PA.s3 (LL.q x198)).4 = (PA.s3 (LL.q x190)).4) ∧ (LL.q x198).4 = (LL.q x190).4 ∧
(LL.q x198).5 = (LL.q x190).5 ∧ (LL.q x198).6 = (LL.q x190).6 ∧ (LL.q x198).7 = (LL.q x190).7 ∧ (LL.q x198).8 = (LL.q x190).8 ∧ x198.8 = x190.8 ∧ True) ∧ (True ∧ FlatL (PA.s1 (LL.w
x198)).5 ∧ (PA.s1 (LL.w x198)).5 = (PA.s1 (LL.w x190)).5) ∧ (True ∧ FlatL (PA.s2 (LL.w x198)).5 ∧ (PA.s2 (LL.w x198)).5 = (PA.s2 (LL.w x190)).5) ∧ (True ∧ FlatL (PA.s3 (LL.w
x198)).5 ∧ (PA.s3 (LL.w x198)).5 = (PA.s3 (LL.w x190)).5) ∧ (True ∧ FlatL (PA.s1 (LL.q x198)).5 ∧ (PA.s1 (LL.q x198)).5 = (PA.s1 (LL.q x190)).5) ∧ (True ∧ FlatL (PA.s2 (LL.q
x198)).5 ∧ (PA.s2 (LL.q x198)).5 = (PA.s2 (LL.q x190)).5) ∧ (True ∧ FlatL (PA.s3 (LL.q x198)).5 ∧ (PA.s3 (LL.q x198)).5 = (PA.s3 (LL.q x190)).5) ∧ (True ∧ FlatL cells0 ∧ cells0 =
cells0) ∧ (True ∧ FlatL cells1 ∧ cells1 = cells1) ∧ (True ∧ FlatL cells2 ∧ cells2 = cells2) ∧ (True ∧ FlatL cells4 ∧ cells4 = cells4) ∧ (True ∧ FlatL cells5 ∧ cells5 = cells5) ∧
(True ∧ FlatL cells6 ∧ cells6 = cells6) ∧ (True ∧ FlatL cells8 ∧ cells8 = cells8) ∧ (True ∧ FlatL cells9 ∧ cells9 = cells9) ∧ (True ∧ FlatL cells10 ∧ cells10 = cells10) ∧ True) ∧
True) ∧ (¬x190.1 < x191 → (True ∧ (∃ (x199 : PX), PH (PA.mk (SA.mk (PA.s1 (LL.q x190)).1 (PA.s1 (LL.q x190)).2 (PA.s1 (LL.q x190)).3 (PA.s1 (LL.q x190)).4 (PA.s1 (LL.q x190)).5)
(SA.mk (PA.s2 (LL.q x190)).1 (PA.s2 (LL.q x190)).2 (PA.s2 (LL.q x190)).3 (PA.s2 (LL.q x190)).4 (PA.s2 (LL.q x190)).5) (SA.mk (PA.s3 (LL.q x190)).1 (PA.s3 (LL.q x190)).2 (PA.s3
(LL.q x190)).3 (PA.s3 (LL.q x190)).4 (PA.s3 (LL.q x190)).5) (LL.q x190).4 (LL.q x190).5 (LL.q x190).6 (LL.q x190).7 (LL.q x190).8) x199) ∧ (PA.s3 (LL.q x190)).3 ≤ (100 : Nat)) ∧
(((((PA.s1 (LL.q x190)).1 = (PA.s1 (LL.q x190)).1 ∧ (PA.s1 (LL.q x190)).2 = (PA.s1 (LL.q x190)).2 ∧ (PA.s1 (LL.q x190)).3 = (PA.s1 (LL.q x190)).3 ∧ (PA.s1 (LL.q x190)).4 = (PA.s1
(LL.q x190)).4) ∧ ((PA.s2 (LL.q x190)).1 = (PA.s2 (LL.q x190)).1 ∧ (PA.s2 (LL.q x190)).2 = (PA.s2 (LL.q x190)).2 ∧ (PA.s2 (LL.q x190)).3 = (PA.s2 (LL.q x190)).3 ∧ (PA.s2 (LL.q
x190)).4 = (PA.s2 (LL.q x190)).4) ∧ ((PA.s3 (LL.q x190)).1 = (PA.s3 (LL.q x190)).1 ∧ (PA.s3 (LL.q x190)).2 = (PA.s3 (LL.q x190)).2 ∧ (PA.s3 (LL.q x190)).3 = (PA.s3 (LL.q x190)).3 ∧
(PA.s3 (LL.q x190)).4 = (PA.s3 (LL.q x190)).4) ∧ (LL.q x190).4 = (LL.q x190).4 ∧ (LL.q x190).5 = (LL.q x190).5 ∧ (LL.q x190).6 = (LL.q x190).6 ∧ (LL.q x190).7 = (LL.q x190).7 ∧
(LL.q x190).8 = (LL.q x190).8 ∧ True) ∧ True) ∧ (True ∧ FlatL (PA.s1 (LL.q x190)).5 ∧ (PA.s1 (LL.q x190)).5 = (PA.s1 (LL.q x190)).5) ∧ (True ∧ FlatL (PA.s2 (LL.q x190)).5 ∧ (PA.s2
(LL.q x190)).5 = (PA.s2 (LL.q x190)).5) ∧ (True ∧ FlatL (PA.s3 (LL.q x190)).5 ∧ (PA.s3 (LL.q x190)).5 = (PA.s3 (LL.q x190)).5) ∧ True) ∧ (∀ (x200 : RN), (∀ (x201 : List Int), Sli
(Value.int IntKind.u8) (8 : Nat) (PA.s3 (LL.q x190)).1 (PA.s3 (LL.q x190)).2 (PA.s3 (LL.q x190)).3 (PA.s3 (LL.q x190)).4 (PA.s3 (LL.q x190)).5 x201 → Sli (Value.int IntKind.u8) (8
: Nat) x200.1 (0 : Nat) (PA.s3 (LL.q x190)).3 x200.2 x200.3 x201) → (True ∧ ((∃ (x202 : PX), PH (PA.mk (SA.mk (PA.s1 (LL.q x190)).1 (PA.s1 (LL.q x190)).2 (PA.s1 (LL.q x190)).3
(PA.s1 (LL.q x190)).4 (PA.s1 (LL.q x190)).5) (SA.mk (PA.s2 (LL.q x190)).1 (PA.s2 (LL.q x190)).2 (PA.s2 (LL.q x190)).3 (PA.s2 (LL.q x190)).4 (PA.s2 (LL.q x190)).5) (SA.mk x200.1
(nat_lit 0) (PA.s3 (LL.q x190)).3 x200.2 x200.3) (LL.q x190).4 (LL.q x190).5 (LL.q x190).6 (LL.q x190).7 (LL.q x190).8) x202 ∧ PW (PA.mk (SA.mk (PA.s1 (LL.q x190)).1 (PA.s1 (LL.q
x190)).2 (PA.s1 (LL.q x190)).3 (PA.s1 (LL.q x190)).4 (PA.s1 (LL.q x190)).5) (SA.mk (PA.s2 (LL.q x190)).1 (PA.s2 (LL.q x190)).2 (PA.s2 (LL.q x190)).3 (PA.s2 (LL.q x190)).4 (PA.s2
(LL.q x190)).5) (SA.mk x200.1 (nat_lit 0) (PA.s3 (LL.q x190)).3 x200.2 x200.3) (LL.q x190).4 (LL.q x190).5 (LL.q x190).6 (LL.q x190).7 (LL.q x190).8) x202) ∧ ∃ (x203 : PX), PH
(PA.mk (SA.mk (PA.s1 (LL.w x190)).1 (PA.s1 (LL.w x190)).2 (PA.s1 (LL.w x190)).3 (PA.s1 (LL.w x190)).4 (PA.s1 (LL.w x190)).5) (SA.mk (PA.s2 (LL.w x190)).1 (PA.s2 (LL.w x190)).2
(PA.s2 (LL.w x190)).3 (PA.s2 (LL.w x190)).4 (PA.s2 (LL.w x190)).5) (SA.mk (PA.s3 (LL.w x190)).1 (PA.s3 (LL.w x190)).2 (PA.s3 (LL.w x190)).3 (PA.s3 (LL.w x190)).4 (PA.s3 (LL.w
x190)).5) (LL.w x190).4 (LL.w x190).5 (LL.w x190).6 (LL.w x190).7 (LL.w x190).8) x203 ∧ PW (PA.mk (SA.mk (PA.s1 (LL.w x190)).1 (PA.s1 (LL.w x190)).2 (PA.s1 (LL.w x190)).3 (PA.s1
(LL.w x190)).4 (PA.s1 (LL.w x190)).5) (SA.mk (PA.s2 (LL.w x190)).1 (PA.s2 (LL.w x190)).2 (PA.s2 (LL.w x190)).3 (PA.s2 (LL.w x190)).4 (PA.s2 (LL.w x190)).5) (SA.mk (PA.s3 (LL.w
x190)).1 (PA.s3 (LL.w x190)).2 (PA.s3 (LL.w x190)).3 (PA.s3 (LL.w x190)).4 (PA.s3 (LL.w x190)).5) (LL.w x190).4 (LL.w x190).5 (LL.w x190).6 (LL.w x190).7 (LL.w x190).8) x203) ∧
((PA.s1 (LL.q x190)).3 ≤ (70 : Nat) ∧ (PA.s2 (LL.q x190)).3 ≤ (10 : Nat) ∧ (PA.s3 (LL.q x190)).3 ≤ (10 : Nat)) ∧ (PA.s1 (LL.w x190)).3 ≤ (70 : Nat) ∧ (PA.s2 (LL.w x190)).3 ≤ (10 :
Nat) ∧ (PA.s3 (LL.w x190)).3 ≤ (10 : Nat)) ∧ (((((PA.s1 (LL.q x190)).1 = (PA.s1 (LL.q x190)).1 ∧ (PA.s1 (LL.q x190)).2 = (PA.s1 (LL.q x190)).2 ∧ (PA.s1 (LL.q x190)).3 = (PA.s1
(LL.q x190)).3 ∧ (PA.s1 (LL.q x190)).4 = (PA.s1 (LL.q x190)).4) ∧ ((PA.s2 (LL.q x190)).1 = (PA.s2 (LL.q x190)).1 ∧ (PA.s2 (LL.q x190)).2 = (PA.s2 (LL.q x190)).2 ∧ (PA.s2 (LL.q
x190)).3 = (PA.s2 (LL.q x190)).3 ∧ (PA.s2 (LL.q x190)).4 = (PA.s2 (LL.q x190)).4) ∧ (x200.1 = x200.1 ∧ nat_lit 0 = (0 : Nat) ∧ (PA.s3 (LL.q x190)).3 = (PA.s3 (LL.q x190)).3 ∧
x200.2 = x200.2) ∧ (LL.q x190).4 = (LL.q x190).4 ∧ (LL.q x190).5 = (LL.q x190).5 ∧ (LL.q x190).6 = (LL.q x190).6 ∧ (LL.q x190).7 = (LL.q x190).7 ∧ (LL.q x190).8 = (LL.q x190).8 ∧
True) ∧ (((PA.s1 (LL.w x190)).1 = (PA.s1 (LL.w x190)).1 ∧ (PA.s1 (LL.w x190)).2 = (PA.s1 (LL.w x190)).2 ∧ (PA.s1 (LL.w x190)).3 = (PA.s1 (LL.w x190)).3 ∧ (PA.s1 (LL.w x190)).4 =
(PA.s1 (LL.w x190)).4) ∧ ((PA.s2 (LL.w x190)).1 = (PA.s2 (LL.w x190)).1 ∧ (PA.s2 (LL.w x190)).2 = (PA.s2 (LL.w x190)).2 ∧ (PA.s2 (LL.w x190)).3 = (PA.s2 (LL.w x190)).3 ∧ (PA.s2
(LL.w x190)).4 = (PA.s2 (LL.w x190)).4) ∧ ((PA.s3 (LL.w x190)).1 = (PA.s3 (LL.w x190)).1 ∧ (PA.s3 (LL.w x190)).2 = (PA.s3 (LL.w x190)).2 ∧ (PA.s3 (LL.w x190)).3 = (PA.s3 (LL.w
x190)).3 ∧ (PA.s3 (LL.w x190)).4 = (PA.s3 (LL.w x190)).4) ∧ (LL.w x190).4 = (LL.w x190).4 ∧ (LL.w x190).5 = (LL.w x190).5 ∧ (LL.w x190).6 = (LL.w x190).6 ∧ (LL.w x190).7 = (LL.w
x190).7 ∧ (LL.w x190).8 = (LL.w x190).8 ∧ True) ∧ True) ∧ (True ∧ FlatL (PA.s1 (LL.q x190)).5 ∧ (PA.s1 (LL.q x190)).5 = (PA.s1 (LL.q x190)).5) ∧ (True ∧ FlatL (PA.s2 (LL.q x190)).5
∧ (PA.s2 (LL.q x190)).5 = (PA.s2 (LL.q x190)).5) ∧ (True ∧ FlatL x200.3 ∧ x200.3 = x200.3) ∧ (True ∧ FlatL (PA.s1 (LL.w x190)).5 ∧ (PA.s1 (LL.w x190)).5 = (PA.s1 (LL.w x190)).5) ∧
(True ∧ FlatL (PA.s2 (LL.w x190)).5 ∧ (PA.s2 (LL.w x190)).5 = (PA.s2 (LL.w x190)).5) ∧ (True ∧ FlatL (PA.s3 (LL.w x190)).5 ∧ (PA.s3 (LL.w x190)).5 = (PA.s3 (LL.w x190)).5) ∧ True)
∧ (∀ (x204 : BL), (∀ (x205 x206 : PX), PH (PA.mk (SA.mk (PA.s1 (LL.q x190)).1 (PA.s1 (LL.q x190)).2 (PA.s1 (LL.q x190)).3 (PA.s1 (LL.q x190)).4 (PA.s1 (LL.q x190)).5) (SA.mk (PA.s2
(LL.q x190)).1 (PA.s2 (LL.q x190)).2 (PA.s2 (LL.q x190)).3 (PA.s2 (LL.q x190)).4 (PA.s2 (LL.q x190)).5) (SA.mk x200.1 (nat_lit 0) (PA.s3 (LL.q x190)).3 x200.2 x200.3) (LL.q x190).4
(LL.q x190).5 (LL.q x190).6 (LL.q x190).7 (LL.q x190).8) x205 → PH (PA.mk (SA.mk (PA.s1 (LL.w x190)).1 (PA.s1 (LL.w x190)).2 (PA.s1 (LL.w x190)).3 (PA.s1 (LL.w x190)).4 (PA.s1
(LL.w x190)).5) (SA.mk (PA.s2 (LL.w x190)).1 (PA.s2 (LL.w x190)).2 (PA.s2 (LL.w x190)).3 (PA.s2 (LL.w x190)).4 (PA.s2 (LL.w x190)).5) (SA.mk (PA.s3 (LL.w x190)).1 (PA.s3 (LL.w
x190)).2 (PA.s3 (LL.w x190)).3 (PA.s3 (LL.w x190)).4 (PA.s3 (LL.w x190)).5) (LL.w x190).4 (LL.w x190).5 (LL.w x190).6 (LL.w x190).7 (LL.w x190).8) x206 → (x204.1 = Bool.true ↔ enc
(PA.mk (SA.mk (PA.s1 (LL.q x190)).1 (PA.s1 (LL.q x190)).2 (PA.s1 (LL.q x190)).3 (PA.s1 (LL.q x190)).4 (PA.s1 (LL.q x190)).5) (SA.mk (PA.s2 (LL.q x190)).1 (PA.s2 (LL.q x190)).2
(PA.s2 (LL.q x190)).3 (PA.s2 (LL.q x190)).4 (PA.s2 (LL.q x190)).5) (SA.mk x200.1 (nat_lit 0) (PA.s3 (LL.q x190)).3 x200.2 x200.3) (LL.q x190).4 (LL.q x190).5 (LL.q x190).6 (LL.q
x190).7 (LL.q x190).8) x205 = enc (PA.mk (SA.mk (PA.s1 (LL.w x190)).1 (PA.s1 (LL.w x190)).2 (PA.s1 (LL.w x190)).3 (PA.s1 (LL.w x190)).4 (PA.s1 (LL.w x190)).5) (SA.mk (PA.s2 (LL.w
x190)).1 (PA.s2 (LL.w x190)).2 (PA.s2 (LL.w x190)).3 (PA.s2 (LL.w x190)).4 (PA.s2 (LL.w x190)).5) (SA.mk (PA.s3 (LL.w x190)).1 (PA.s3 (LL.w x190)).2 (PA.s3 (LL.w x190)).3 (PA.s3
(LL.w x190)).4 (PA.s3 (LL.w x190)).5) (LL.w x190).4 (LL.w x190).5 (LL.w x190).6 (LL.w x190).7 (LL.w x190).8) x206)) → (x204.1 = Bool.true → (True ∧ True ∧ True ∧ (W_G_apart_0 x190
= W_G_apart_0 x190 ∧ True) ∧ True ∧ True ∧ True) ∧ ∀ (x207 : Int), x207 = IntKind.wrap IntKind.i64 a.1 → ∀ (x208 : Int), x208 = IntKind.wrap IntKind.i64 (x207 + (1 : Int)) → (True
∧ (∃ (x209 : PX), PH (PA.mk (SA.mk (PA.s1 (LL.q x190)).1 (PA.s1 (LL.q x190)).2 (PA.s1 (LL.q x190)).3 (PA.s1 (LL.q x190)).4 (PA.s1 (LL.q x190)).5) (SA.mk (PA.s2 (LL.q x190)).1
(PA.s2 (LL.q x190)).2 (PA.s2 (LL.q x190)).3 (PA.s2 (LL.q x190)).4 (PA.s2 (LL.q x190)).5) (SA.mk (PA.s3 (LL.q x190)).1 (PA.s3 (LL.q x190)).2 (PA.s3 (LL.q x190)).3 (PA.s3 (LL.q
x190)).4 (PA.s3 (LL.q x190)).5) (LL.q x190).4 (LL.q x190).5 (LL.q x190).6 (LL.q x190).7 (LL.q x190).8) x209) ∧ (wthn x208 (Int.ofNat (3 : Nat)) (Int.ofNat (4 : Nat)) = (0 : Int) ∧
a.1 < x208) ∧ (PA.s1 (LL.q x190)).3 ≤ (100 : Nat) ∧ (PA.s2 (LL.q x190)).3 ≤ (100 : Nat) ∧ (PA.s3 (LL.q x190)).3 ≤ (100 : Nat)) ∧ (((a.1 = a.1 ∧ True ∧ True ∧ True ∧ True ∧ True ∧
True ∧ True ∧ True ∧ True ∧ True ∧ True) ∧ x208 = x208 ∧ (((PA.s1 (LL.q x190)).1 = (PA.s1 (LL.q x190)).1 ∧ (PA.s1 (LL.q x190)).2 = (PA.s1 (LL.q x190)).2 ∧ (PA.s1 (LL.q x190)).3 =
(PA.s1 (LL.q x190)).3 ∧ (PA.s1 (LL.q x190)).4 = (PA.s1 (LL.q x190)).4) ∧ ((PA.s2 (LL.q x190)).1 = (PA.s2 (LL.q x190)).1 ∧ (PA.s2 (LL.q x190)).2 = (PA.s2 (LL.q x190)).2 ∧ (PA.s2
(LL.q x190)).3 = (PA.s2 (LL.q x190)).3 ∧ (PA.s2 (LL.q x190)).4 = (PA.s2 (LL.q x190)).4) ∧ ((PA.s3 (LL.q x190)).1 = (PA.s3 (LL.q x190)).1 ∧ (PA.s3 (LL.q x190)).2 = (PA.s3 (LL.q
x190)).2 ∧ (PA.s3 (LL.q x190)).3 = (PA.s3 (LL.q x190)).3 ∧ (PA.s3 (LL.q x190)).4 = (PA.s3 (LL.q x190)).4) ∧ (LL.q x190).4 = (LL.q x190).4 ∧ (LL.q x190).5 = (LL.q x190).5 ∧ (LL.q
x190).6 = (LL.q x190).6 ∧ (LL.q x190).7 = (LL.q x190).7 ∧ (LL.q x190).8 = (LL.q x190).8 ∧ True) ∧ Int.ofNat (3 : Nat) = (3 : Int) ∧ Int.ofNat (4 : Nat) = (4 : Int) ∧ True) ∧ (True
∧ FlatL (PA.s1 (LL.q x190)).5 ∧ (PA.s1 (LL.q x190)).5 = (PA.s1 (LL.q x190)).5) ∧ (True ∧ FlatL (PA.s2 (LL.q x190)).5 ∧ (PA.s2 (LL.q x190)).5 = (PA.s2 (LL.q x190)).5) ∧ (True ∧
FlatL (PA.s3 (LL.q x190)).5 ∧ (PA.s3 (LL.q x190)).5 = (PA.s3 (LL.q x190)).5) ∧ True) ∧ (∀ (x210 : PB), (∀ (x211 : PX), PH (PA.mk (SA.mk (PA.s1 (LL.q x190)).1 (PA.s1 (LL.q x190)).2
(PA.s1 (LL.q x190)).3 (PA.s1 (LL.q x190)).4 (PA.s1 (LL.q x190)).5) (SA.mk (PA.s2 (LL.q x190)).1 (PA.s2 (LL.q x190)).2 (PA.s2 (LL.q x190)).3 (PA.s2 (LL.q x190)).4 (PA.s2 (LL.q
x190)).5) (SA.mk (PA.s3 (LL.q x190)).1 (PA.s3 (LL.q x190)).2 (PA.s3 (LL.q x190)).3 (PA.s3 (LL.q x190)).4 (PA.s3 (LL.q x190)).5) (LL.q x190).4 (LL.q x190).5 (LL.q x190).6 (LL.q
x190).7 (LL.q x190).8) x211 → PH (PA.mk (SA.mk (PA.s1 (LL.q x190)).1 (0 : Nat) (PA.s1 (LL.q x190)).3 (PB.b1 x210).1 (PB.b1 x210).2) (SA.mk (PA.s2 (LL.q x190)).1 (0 : Nat) (PA.s2
(LL.q x190)).3 (PB.b2 x210).1 (PB.b2 x210).2) (SA.mk (PA.s3 (LL.q x190)).1 (0 : Nat) (PA.s3 (LL.q x190)).3 (PB.b3 x210).1 (PB.b3 x210).2) (LL.q x190).4 (LL.q x190).5 (LL.q x190).6
(LL.q x190).7 (LL.q x190).8) x211) → ∃ (x212 : LL), (((0 : Int) ≤ x212.1 ∧ x212.1 ≤ ↑x212.3) ∧ (x212.3 ≤ (70 : Nat) ∧ x212.3 ≤ x212.4) ∧ Ir x212.5 x212.3 ∧ Twin x212.7 x212.6) ∧
(((0 : Nat) = (0 : Nat) ∧ (0 : Nat) = (0 : Nat) ∧ (0 : Nat) = (0 : Nat) ∧ (0 : Int) = (0 : Int) ∧ x212.1 = (0 : Int) ∧ True) ∧ ((True ∧ True ∧ True ∧ (x212.2 = (PA.s1 (LL.q
x190)).1 ∧ (0 : Nat) = (0 : Nat) ∧ x212.3 = (PA.s1 (LL.q x190)).3 ∧ x212.4 = (PB.b1 x210).1) ∧ True ∧ True ∧ True ∧ True ∧ True ∧ True ∧ True ∧ True ∧ True) ∧ (x212.4 = (PB.b1
x210).1 ∧ FlatL x212.5 ∧ x212.5 = (PB.b1 x210).2) ∧ (True ∧ ((PA.s1 (LL.w x212)).1 = (PA.s1 (LL.w x190)).1 ∧ (PA.s1 (LL.w x212)).2 = (PA.s1 (LL.w x190)).2 ∧ (PA.s1 (LL.w x212)).3 =
(PA.s1 (LL.w x190)).3 ∧ (PA.s1 (LL.w x212)).4 = (PA.s1 (LL.w x190)).4) ∧ ((PA.s2 (LL.w x212)).1 = (PA.s2 (LL.w x190)).1 ∧ (PA.s2 (LL.w x212)).2 = (PA.s2 (LL.w x190)).2 ∧ (PA.s2
(LL.w x212)).3 = (PA.s2 (LL.w x190)).3 ∧ (PA.s2 (LL.w x212)).4 = (PA.s2 (LL.w x190)).4) ∧ ((PA.s3 (LL.w x212)).1 = (PA.s3 (LL.w x190)).1 ∧ (PA.s3 (LL.w x212)).2 = (PA.s3 (LL.w
x190)).2 ∧ (PA.s3 (LL.w x212)).3 = (PA.s3 (LL.w x190)).3 ∧ (PA.s3 (LL.w x212)).4 = (PA.s3 (LL.w x190)).4) ∧ (LL.w x212).4 = (LL.w x190).4 ∧ (LL.w x212).5 = (LL.w x190).5 ∧ (LL.w
x212).6 = (LL.w x190).6 ∧ (LL.w x212).7 = (LL.w x190).7 ∧ (LL.w x212).8 = (LL.w x190).8 ∧ True) ∧ (True ∧ a.1 = a.1 ∧ a.1 = a.1 ∧ ((PA.s1 (LL.q x212)).1 = (PA.s1 (LL.q x190)).1 ∧
(PA.s1 (LL.q x212)).2 = (PA.s1 (LL.q x190)).2 ∧ (PA.s1 (LL.q x212)).3 = (PA.s1 (LL.q x190)).3 ∧ (PA.s1 (LL.q x212)).4 = (PA.s1 (LL.q x190)).4) ∧ ((PA.s2 (LL.q x212)).1 = (PA.s2
(LL.q x190)).1 ∧ (PA.s2 (LL.q x212)).2 = (PA.s2 (LL.q x190)).2 ∧ (PA.s2 (LL.q x212)).3 = (PA.s2 (LL.q x190)).3 ∧ (PA.s2 (LL.q x212)).4 = (PA.s2 (LL.q x190)).4) ∧ ((PA.s3 (LL.q
x212)).1 = (PA.s3 (LL.q x190)).1 ∧ (PA.s3 (LL.q x212)).2 = (PA.s3 (LL.q x190)).2 ∧ (PA.s3 (LL.q x212)).3 = (PA.s3 (LL.q x190)).3 ∧ (PA.s3 (LL.q x212)).4 = (PA.s3 (LL.q x190)).4) ∧
(LL.q x212).4 = (LL.q x190).4 ∧ (LL.q x212).5 = (LL.q x190).5 ∧ (LL.q x212).6 = (LL.q x190).6 ∧ (LL.q x212).7 = (LL.q x190).7 ∧ (LL.q x212).8 = (LL.q x190).8 ∧ x212.8 = x190.8 ∧
True) ∧ (True ∧ FlatL (PA.s1 (LL.w x212)).5 ∧ (PA.s1 (LL.w x212)).5 = (PA.s1 (LL.w x190)).5) ∧ (True ∧ FlatL (PA.s2 (LL.w x212)).5 ∧ (PA.s2 (LL.w x212)).5 = (PA.s2 (LL.w x190)).5)
∧ (True ∧ FlatL (PA.s3 (LL.w x212)).5 ∧ (PA.s3 (LL.w x212)).5 = (PA.s3 (LL.w x190)).5) ∧ (True ∧ FlatL (PA.s1 (LL.q x212)).5 ∧ (PA.s1 (LL.q x212)).5 = (PA.s1 (LL.q x190)).5) ∧
(True ∧ FlatL (PA.s2 (LL.q x212)).5 ∧ (PA.s2 (LL.q x212)).5 = (PA.s2 (LL.q x190)).5) ∧ (True ∧ FlatL (PA.s3 (LL.q x212)).5 ∧ (PA.s3 (LL.q x212)).5 = (PA.s3 (LL.q x190)).5) ∧ (True
∧ FlatL cells0 ∧ cells0 = cells0) ∧ (True ∧ FlatL cells1 ∧ cells1 = cells1) ∧ (True ∧ FlatL cells2 ∧ cells2 = cells2) ∧ (True ∧ FlatL cells4 ∧ cells4 = cells4) ∧ (True ∧ FlatL
cells5 ∧ cells5 = cells5) ∧ (True ∧ FlatL cells6 ∧ cells6 = cells6) ∧ (True ∧ FlatL cells8 ∧ cells8 = cells8) ∧ (True ∧ FlatL cells9 ∧ cells9 = cells9) ∧ (True ∧ FlatL cells10 ∧
cells10 = cells10) ∧ True) ∧ True) ∧ ∀ (x213 : LL), ((0 : Int) ≤ x213.1 ∧ x213.1 ≤ ↑x213.3) ∧ (x213.3 ≤ (70 : Nat) ∧ x213.3 ≤ x213.4) ∧ Ir x213.5 x213.3 ∧ Twin x213.7 x213.6 → ∀
(x214 : Int), x214 = ↑x213.3 → (x213.1 < x214 → ((0 : Int) ≤ x213.1 ∧ x213.1 < ↑x213.3) ∧ ∀ (x215 : Nat), x215 = (0 : Nat) + Int.toNat x213.1 * (1 : Nat) → ∃ (x216 : Int), Rd
x213.5 (Nat.add x215 (0 : Nat)) (Value.int IntKind.i32 x216) ∧ ∀ (x217 : Int), x217 = IntKind.wrap IntKind.i32 (x216 + (1 : Int)) → ((0 : Int) ≤ x213.1 ∧ x213.1 < ↑x213.3) ∧ ∀
(x218 : Nat), x218 = (0 : Nat) + Int.toNat x213.1 * (1 : Nat) → x218 + (1 : Nat) ≤ List.length x213.5 ∧ ∀ (x219 : List Value), x219 = lput x213.5 x218 [Value.iface (1000000007 :
Nat) (Value.int IntKind.i32 x217)] → ∀ (x220 : Int), x220 = IntKind.wrap IntKind.i64 (x213.1 + (1 : Int)) → ∃ (x221 : LL), (((0 : Int) ≤ x221.1 ∧ x221.1 ≤ ↑x221.3) ∧ (x221.3 ≤ (70
: Nat) ∧ x221.3 ≤ x221.4) ∧ Ir x221.5 x221.3 ∧ Twin x221.7 x221.6) ∧ Int.toNat (↑x221.3 - x221.1) < Int.toNat (↑x213.3 - x213.1) ∧ ((0 : Nat) = (0 : Nat) ∧ (0 : Nat) = (0 : Nat) ∧
(0 : Nat) = (0 : Nat) ∧ (0 : Int) = (0 : Int) ∧ x221.1 = x220 ∧ True) ∧ ((True ∧ True ∧ True ∧ (x221.2 = x213.2 ∧ (0 : Nat) = (0 : Nat) ∧ x221.3 = x213.3 ∧ x221.4 = x213.4) ∧ True
∧ True ∧ True ∧ True ∧ True ∧ True ∧ True ∧ True ∧ True) ∧ (x221.4 = x213.4 ∧ FlatL x221.5 ∧ x221.5 = x219) ∧ (True ∧ ((PA.s1 (LL.w x221)).1 = (PA.s1 (LL.w x213)).1 ∧ (PA.s1 (LL.w
x221)).2 = (PA.s1 (LL.w x213)).2 ∧ (PA.s1 (LL.w x221)).3 = (PA.s1 (LL.w x213)).3 ∧ (PA.s1 (LL.w x221)).4 = (PA.s1 (LL.w x213)).4) ∧ ((PA.s2 (LL.w x221)).1 = (PA.s2 (LL.w x213)).1 ∧
(PA.s2 (LL.w x221)).2 = (PA.s2 (LL.w x213)).2 ∧ (PA.s2 (LL.w x221)).3 = (PA.s2 (LL.w x213)).3 ∧ (PA.s2 (LL.w x221)).4 = (PA.s2 (LL.w x213)).4) ∧ ((PA.s3 (LL.w x221)).1 = (PA.s3
(LL.w x213)).1 ∧ (PA.s3 (LL.w x221)).2 = (PA.s3 (LL.w x213)).2 ∧ (PA.s3 (LL.w x221)).3 = (PA.s3 (LL.w x213)).3 ∧ (PA.s3 (LL.w x221)).4 = (PA.s3 (LL.w x213)).4) ∧ (LL.w x221).4 =
(LL.w x213).4 ∧ (LL.w x221).5 = (LL.w x213).5 ∧ (LL.w x221).6 = (LL.w x213).6 ∧ (LL.w x221).7 = (LL.w x213).7 ∧ (LL.w x221).8 = (LL.w x213).8 ∧ True) ∧ (True ∧ a.1 = a.1 ∧ a.1 =
a.1 ∧ ((PA.s1 (LL.q x221)).1 = (PA.s1 (LL.q x213)).1 ∧ (PA.s1 (LL.q x221)).2 = (PA.s1 (LL.q x213)).2 ∧ (PA.s1 (LL.q x221)).3 = (PA.s1 (LL.q x213)).3 ∧ (PA.s1 (LL.q x221)).4 =
(PA.s1 (LL.q x213)).4) ∧ ((PA.s2 (LL.q x221)).1 = (PA.s2 (LL.q x213)).1 ∧ (PA.s2 (LL.q x221)).2 = (PA.s2 (LL.q x213)).2 ∧ (PA.s2 (LL.q x221)).3 = (PA.s2 (LL.q x213)).3 ∧ (PA.s2
(LL.q x221)).4 = (PA.s2 (LL.q x213)).4) ∧ ((PA.s3 (LL.q x221)).1 = (PA.s3 (LL.q x213)).1 ∧ (PA.s3 (LL.q x221)).2 = (PA.s3 (LL.q x213)).2 ∧ (PA.s3 (LL.q x221)).3 = (PA.s3 (LL.q
x213)).3 ∧ (PA.s3 (LL.q x221)).4 = (PA.s3 (LL.q x213)).4) ∧ (LL.q x221).4 = (LL.q x213).4 ∧ (LL.q x221).5 = (LL.q x213).5 ∧ (LL.q x221).6 = (LL.q x213).6 ∧ (LL.q x221).7 = (LL.q
x213).7 ∧ (LL.q x221).8 = (LL.q x213).8 ∧ x221.8 = x213.8 ∧ True) ∧ (True ∧ FlatL (PA.s1 (LL.w x221)).5 ∧ (PA.s1 (LL.w x221)).5 = (PA.s1 (LL.w x213)).5) ∧ (True ∧ FlatL (PA.s2
(LL.w x221)).5 ∧ (PA.s2 (LL.w x221)).5 = (PA.s2 (LL.w x213)).5) ∧ (True ∧ FlatL (PA.s3 (LL.w x221)).5 ∧ (PA.s3 (LL.w x221)).5 = (PA.s3 (LL.w x213)).5) ∧ (True ∧ FlatL (PA.s1 (LL.q
x221)).5 ∧ (PA.s1 (LL.q x221)).5 = (PA.s1 (LL.q x213)).5) ∧ (True ∧ FlatL (PA.s2 (LL.q x221)).5 ∧ (PA.s2 (LL.q x221)).5 = (PA.s2 (LL.q x213)).5) ∧ (True ∧ FlatL (PA.s3 (LL.q
x221)).5 ∧ (PA.s3 (LL.q x221)).5 = (PA.s3 (LL.q x213)).5) ∧ (True ∧ FlatL cells0 ∧ cells0 = cells0) ∧ (True ∧ FlatL cells1 ∧ cells1 = cells1) ∧ (True ∧ FlatL cells2 ∧ cells2 =
cells2) ∧ (True ∧ FlatL cells4 ∧ cells4 = cells4) ∧ (True ∧ FlatL cells5 ∧ cells5 = cells5) ∧ (True ∧ FlatL cells6 ∧ cells6 = cells6) ∧ (True ∧ FlatL cells8 ∧ cells8 = cells8) ∧
(True ∧ FlatL cells9 ∧ cells9 = cells9) ∧ (True ∧ FlatL cells10 ∧ cells10 = cells10) ∧ True) ∧ True) ∧ (¬x213.1 < x214 → (True ∧ True) ∧ (True ∧ (True ∧ FlatL cells0 ∧ cells0 =
cells0) ∧ (True ∧ FlatL cells1 ∧ cells1 = cells1) ∧ (True ∧ FlatL cells2 ∧ cells2 = cells2) ∧ (True ∧ FlatL cells4 ∧ cells4 = cells4) ∧ (True ∧ FlatL cells5 ∧ cells5 = cells5) ∧
(True ∧ FlatL cells6 ∧ cells6 = cells6) ∧ (True ∧ FlatL cells8 ∧ cells8 = cells8) ∧ (True ∧ FlatL cells9 ∧ cells9 = cells9) ∧ (True ∧ FlatL cells10 ∧ cells10 = cells10) ∧ True) ∧
(∀ (x222 : Unit), True → (True ∧ (∃ (x223 : PX), PH (PA.mk (SA.mk (PA.s1 (LL.q x213)).1 (PA.s1 (LL.q x213)).2 (PA.s1 (LL.q x213)).3 (PA.s1 (LL.q x213)).4 (PA.s1 (LL.q x213)).5)
(SA.mk (PA.s2 (LL.q x213)).1 (PA.s2 (LL.q x213)).2 (PA.s2 (LL.q x213)).3 (PA.s2 (LL.q x213)).4 (PA.s2 (LL.q x213)).5) (SA.mk (PA.s3 (LL.q x213)).1 (PA.s3 (LL.q x213)).2 (PA.s3
(LL.q x213)).3 (PA.s3 (LL.q x213)).4 (PA.s3 (LL.q x213)).5) (LL.q x213).4 (LL.q x213).5 (LL.q x213).6 (LL.q x213).7 (LL.q x213).8) x223) ∧ (PA.s3 (LL.q x213)).3 ≤ (100 : Nat)) ∧
(((((PA.s1 (LL.q x213)).1 = (PA.s1 (LL.q x213)).1 ∧ (PA.s1 (LL.q x213)).2 = (PA.s1 (LL.q x213)).2 ∧ (PA.s1 (LL.q x213)).3 = (PA.s1 (LL.q x213)).3 ∧ (PA.s1 (LL.q x213)).4 = (PA.s1
(LL.q x213)).4) ∧ ((PA.s2 (LL.q x213)).1 = (PA.s2 (LL.q x213)).1 ∧ (PA.s2 (LL.q x213)).2 = (PA.s2 (LL.q x213)).2 ∧ (PA.s2 (LL.q x213)).3 = (PA.s2 (LL.q x213)).3 ∧ (PA.s2 (LL.q
x213)).4 = (PA.s2 (LL.q x213)).4) ∧ ((PA.s3 (LL.q x213)).1 = (PA.s3 (LL.q x213)).1 ∧ (PA.s3 (LL.q x213)).2 = (PA.s3 (LL.q x213)).2 ∧ (PA.s3 (LL.q x213)).3 = (PA.s3 (LL.q x213)).3 ∧
(PA.s3 (LL.q x213)).4 = (PA.s3 (LL.q x213)).4) ∧ (LL.q x213).4 = (LL.q x213).4 ∧ (LL.q x213).5 = (LL.q x213).5 ∧ (LL.q x213).6 = (LL.q x213).6 ∧ (LL.q x213).7 = (LL.q x213).7 ∧
(LL.q x213).8 = (LL.q x213).8 ∧ True) ∧ True) ∧ (True ∧ FlatL (PA.s1 (LL.q x213)).5 ∧ (PA.s1 (LL.q x213)).5 = (PA.s1 (LL.q x213)).5) ∧ (True ∧ FlatL (PA.s2 (LL.q x213)).5 ∧ (PA.s2
(LL.q x213)).5 = (PA.s2 (LL.q x213)).5) ∧ (True ∧ FlatL (PA.s3 (LL.q x213)).5 ∧ (PA.s3 (LL.q x213)).5 = (PA.s3 (LL.q x213)).5) ∧ True) ∧ (∀ (x224 : RN), (∀ (x225 : List Int), Sli
(Value.int IntKind.u8) (8 : Nat) (PA.s3 (LL.q x213)).1 (PA.s3 (LL.q x213)).2 (PA.s3 (LL.q x213)).3 (PA.s3 (LL.q x213)).4 (PA.s3 (LL.q x213)).5 x225 → Sli (Value.int IntKind.u8) (8
: Nat) x224.1 (0 : Nat) (PA.s3 (LL.q x213)).3 x224.2 x224.3 x225) → (True ∧ ((∃ (x226 : PX), PH (PA.mk (SA.mk (PA.s1 (LL.q x213)).1 (PA.s1 (LL.q x213)).2 (PA.s1 (LL.q x213)).3
(PA.s1 (LL.q x213)).4 (PA.s1 (LL.q x213)).5) (SA.mk (PA.s2 (LL.q x213)).1 (PA.s2 (LL.q x213)).2 (PA.s2 (LL.q x213)).3 (PA.s2 (LL.q x213)).4 (PA.s2 (LL.q x213)).5) (SA.mk x224.1
(nat_lit 0) (PA.s3 (LL.q x213)).3 x224.2 x224.3) (LL.q x213).4 (LL.q x213).5 (LL.q x213).6 (LL.q x213).7 (LL.q x213).8) x226 ∧ PW (PA.mk (SA.mk (PA.s1 (LL.q x213)).1 (PA.s1 (LL.q
x213)).2 (PA.s1 (LL.q x213)).3 (PA.s1 (LL.q x213)).4 (PA.s1 (LL.q x213)).5) (SA.mk (PA.s2 (LL.q x213)).1 (PA.s2 (LL.q x213)).2 (PA.s2 (LL.q x213)).3 (PA.s2 (LL.q x213)).4 (PA.s2
(LL.q x213)).5) (SA.mk x224.1 (nat_lit 0) (PA.s3 (LL.q x213)).3 x224.2 x224.3) (LL.q x213).4 (LL.q x213).5 (LL.q x213).6 (LL.q x213).7 (LL.q x213).8) x226) ∧ ∃ (x227 : PX), PH
(PA.mk (SA.mk (PA.s1 (LL.w x213)).1 (PA.s1 (LL.w x213)).2 (PA.s1 (LL.w x213)).3 (PA.s1 (LL.w x213)).4 (PA.s1 (LL.w x213)).5) (SA.mk (PA.s2 (LL.w x213)).1 (PA.s2 (LL.w x213)).2
(PA.s2 (LL.w x213)).3 (PA.s2 (LL.w x213)).4 (PA.s2 (LL.w x213)).5) (SA.mk (PA.s3 (LL.w x213)).1 (PA.s3 (LL.w x213)).2 (PA.s3 (LL.w x213)).3 (PA.s3 (LL.w x213)).4 (PA.s3 (LL.w
x213)).5) (LL.w x213).4 (LL.w x213).5 (LL.w x213).6 (LL.w x213).7 (LL.w x213).8) x227 ∧ PW (PA.mk (SA.mk (PA.s1 (LL.w x213)).1 (PA.s1 (LL.w x213)).2 (PA.s1 (LL.w x213)).3 (PA.s1
(LL.w x213)).4 (PA.s1 (LL.w x213)).5) (SA.mk (PA.s2 (LL.w x213)).1 (PA.s2 (LL.w x213)).2 (PA.s2 (LL.w x213)).3 (PA.s2 (LL.w x213)).4 (PA.s2 (LL.w x213)).5) (SA.mk (PA.s3 (LL.w
x213)).1 (PA.s3 (LL.w x213)).2 (PA.s3 (LL.w x213)).3 (PA.s3 (LL.w x213)).4 (PA.s3 (LL.w x213)).5) (LL.w x213).4 (LL.w x213).5 (LL.w x213).6 (LL.w x213).7 (LL.w x213).8) x227) ∧
((PA.s1 (LL.q x213)).3 ≤ (70 : Nat) ∧ (PA.s2 (LL.q x213)).3 ≤ (10 : Nat) ∧ (PA.s3 (LL.q x213)).3 ≤ (10 : Nat)) ∧ (PA.s1 (LL.w x213)).3 ≤ (70 : Nat) ∧ (PA.s2 (LL.w x213)).3 ≤ (10 :
Nat) ∧ (PA.s3 (LL.w x213)).3 ≤ (10 : Nat)) ∧ (((((PA.s1 (LL.q x213)).1 = (PA.s1 (LL.q x213)).1 ∧ (PA.s1 (LL.q x213)).2 = (PA.s1 (LL.q x213)).2 ∧ (PA.s1 (LL.q x213)).3 = (PA.s1
(LL.q x213)).3 ∧ (PA.s1 (LL.q x213)).4 = (PA.s1 (LL.q x213)).4) ∧ ((PA.s2 (LL.q x213)).1 = (PA.s2 (LL.q x213)).1 ∧ (PA.s2 (LL.q x213)).2 = (PA.s2 (LL.q x213)).2 ∧ (PA.s2 (LL.q
x213)).3 = (PA.s2 (LL.q x213)).3 ∧ (PA.s2 (LL.q x213)).4 = (PA.s2 (LL.q x213)).4) ∧ (x224.1 = x224.1 ∧ nat_lit 0 = (0 : Nat) ∧ (PA.s3 (LL.q x213)).3 = (PA.s3 (LL.q x213)).3 ∧
x224.2 = x224.2) ∧ (LL.q x213).4 = (LL.q x213).4 ∧ (LL.q x213).5 = (LL.q x213).5 ∧ (LL.q x213).6 = (LL.q x213).6 ∧ (LL.q x213).7 = (LL.q x213).7 ∧ (LL.q x213).8 = (LL.q x213).8 ∧
True) ∧ (((PA.s1 (LL.w x213)).1 = (PA.s1 (LL.w x213)).1 ∧ (PA.s1 (LL.w x213)).2 = (PA.s1 (LL.w x213)).2 ∧ (PA.s1 (LL.w x213)).3 = (PA.s1 (LL.w x213)).3 ∧ (PA.s1 (LL.w x213)).4 =
(PA.s1 (LL.w x213)).4) ∧ ((PA.s2 (LL.w x213)).1 = (PA.s2 (LL.w x213)).1 ∧ (PA.s2 (LL.w x213)).2 = (PA.s2 (LL.w x213)).2 ∧ (PA.s2 (LL.w x213)).3 = (PA.s2 (LL.w x213)).3 ∧ (PA.s2
(LL.w x213)).4 = (PA.s2 (LL.w x213)).4) ∧ ((PA.s3 (LL.w x213)).1 = (PA.s3 (LL.w x213)).1 ∧ (PA.s3 (LL.w x213)).2 = (PA.s3 (LL.w x213)).2 ∧ (PA.s3 (LL.w x213)).3 = (PA.s3 (LL.w
x213)).3 ∧ (PA.s3 (LL.w x213)).4 = (PA.s3 (LL.w x213)).4) ∧ (LL.w x213).4 = (LL.w x213).4 ∧ (LL.w x213).5 = (LL.w x213).5 ∧ (LL.w x213).6 = (LL.w x213).6 ∧ (LL.w x213).7 = (LL.w
x213).7 ∧ (LL.w x213).8 = (LL.w x213).8 ∧ True) ∧ True) ∧ (True ∧ FlatL (PA.s1 (LL.q x213)).5 ∧ (PA.s1 (LL.q x213)).5 = (PA.s1 (LL.q x213)).5) ∧ (True ∧ FlatL (PA.s2 (LL.q x213)).5
∧ (PA.s2 (LL.q x213)).5 = (PA.s2 (LL.q x213)).5) ∧ (True ∧ FlatL x224.3 ∧ x224.3 = x224.3) ∧ (True ∧ FlatL (PA.s1 (LL.w x213)).5 ∧ (PA.s1 (LL.w x213)).5 = (PA.s1 (LL.w x213)).5) ∧
(True ∧ FlatL (PA.s2 (LL.w x213)).5 ∧ (PA.s2 (LL.w x213)).5 = (PA.s2 (LL.w x213)).5) ∧ (True ∧ FlatL (PA.s3 (LL.w x213)).5 ∧ (PA.s3 (LL.w x213)).5 = (PA.s3 (LL.w x213)).5) ∧ True)
∧ (∀ (x228 : BL), (∀ (x229 x230 : PX), PH (PA.mk (SA.mk (PA.s1 (LL.q x213)).1 (PA.s1 (LL.q x213)).2 (PA.s1 (LL.q x213)).3 (PA.s1 (LL.q x213)).4 (PA.s1 (LL.q x213)).5) (SA.mk (PA.s2
(LL.q x213)).1 (PA.s2 (LL.q x213)).2 (PA.s2 (LL.q x213)).3 (PA.s2 (LL.q x213)).4 (PA.s2 (LL.q x213)).5) (SA.mk x224.1 (nat_lit 0) (PA.s3 (LL.q x213)).3 x224.2 x224.3) (LL.q x213).4
(LL.q x213).5 (LL.q x213).6 (LL.q x213).7 (LL.q x213).8) x229 → PH (PA.mk (SA.mk (PA.s1 (LL.w x213)).1 (PA.s1 (LL.w x213)).2 (PA.s1 (LL.w x213)).3 (PA.s1 (LL.w x213)).4 (PA.s1
(LL.w x213)).5) (SA.mk (PA.s2 (LL.w x213)).1 (PA.s2 (LL.w x213)).2 (PA.s2 (LL.w x213)).3 (PA.s2 (LL.w x213)).4 (PA.s2 (LL.w x213)).5) (SA.mk (PA.s3 (LL.w x213)).1 (PA.s3 (LL.w
x213)).2 (PA.s3 (LL.w x213)).3 (PA.s3 (LL.w x213)).4 (PA.s3 (LL.w x213)).5) (LL.w x213).4 (LL.w x213).5 (LL.w x213).6 (LL.w x213).7 (LL.w x213).8) x230 → (x228.1 = Bool.true ↔ enc
(PA.mk (SA.mk (PA.s1 (LL.q x213)).1 (PA.s1 (LL.q x213)).2 (PA.s1 (LL.q x213)).3 (PA.s1 (LL.q x213)).4 (PA.s1 (LL.q x213)).5) (SA.mk (PA.s2 (LL.q x213)).1 (PA.s2 (LL.q x213)).2
(PA.s2 (LL.q x213)).3 (PA.s2 (LL.q x213)).4 (PA.s2 (LL.q x213)).5) (SA.mk x224.1 (nat_lit 0) (PA.s3 (LL.q x213)).3 x224.2 x224.3) (LL.q x213).4 (LL.q x213).5 (LL.q x213).6 (LL.q
x213).7 (LL.q x213).8) x229 = enc (PA.mk (SA.mk (PA.s1 (LL.w x213)).1 (PA.s1 (LL.w x213)).2 (PA.s1 (LL.w x213)).3 (PA.s1 (LL.w x213)).4 (PA.s1 (LL.w x213)).5) (SA.mk (PA.s2 (LL.w
x213)).1 (PA.s2 (LL.w x213)).2 (PA.s2 (LL.w x213)).3 (PA.s2 (LL.w x213)).4 (PA.s2 (LL.w x213)).5) (SA.mk (PA.s3 (LL.w x213)).1 (PA.s3 (LL.w x213)).2 (PA.s3 (LL.w x213)).3 (PA.s3
(LL.w x213)).4 (PA.s3 (LL.w x213)).5) (LL.w x213).4 (LL.w x213).5 (LL.w x213).6 (LL.w x213).7 (LL.w x213).8) x230)) → (True ∧ True ∧ True ∧ True ∧ True ∧ True ∧ True ∧ True ∧ True
∧ (W_G_apart_0 x213 = W_G_apart_0 x213 ∧ True) ∧ True ∧ True ∧ True ∧ True) ∧ ∃ (x231 : Unit), True ∧ Bool.true = x228.1 ∧ True) ∧ True) ∧ True) ∧ True)) ∧ True) ∧ (x204.1 =
Bool.false → (True ∧ True ∧ True ∧ (W_G_apart_0 x190 = W_G_apart_0 x190 ∧ True) ∧ True ∧ True ∧ True) ∧ ∃ (x232 : Unit), True ∧ Bool.true = Bool.false ∧ True)) ∧ True) ∧ True)) ∧
True) ∧ True) ∧ True))) ∧ True) ∧ True) ∧ True) := by kernel_rfl
theorem flat_all {c : List Value} (h : c.all ftag = true) : FlatL c := fun v hv => List.all_eq_true.1 h v hv
theorem fl0 : FlatL cells0 := flat_all (by kernel_rfl)
theorem fl1 : FlatL cells1 := flat_all (by kernel_rfl)
theorem fl2 : FlatL cells2 := flat_all (by kernel_rfl)
theorem fl4 : FlatL cells4 := flat_all (by kernel_rfl)
theorem fl5 : FlatL cells5 := flat_all (by kernel_rfl)
theorem fl6 : FlatL cells6 := flat_all (by kernel_rfl)
theorem fl8 : FlatL cells8 := flat_all (by kernel_rfl)
theorem fl9 : FlatL cells9 := flat_all (by kernel_rfl)
theorem fl10 : FlatL cells10 := flat_all (by kernel_rfl)
theorem HV.put32 {c : List Value} {xs : List Int} {z : Int} {i : Nat} (h : HI .i32 c 0 xs) (hl : xs.length ≤ c.length) (hi : i < xs.length) : HI .i32 (lput c i [tgI .i32 z]) 0 (xs.set i z) := fun j x hx => by
  rw [Nat.zero_add]
  unfold Rd lput
  by_cases e : j = i
  · subst e
    rw [List.getElem?_set_self (by omega)] at hx
    cases hx
    right
    rw [List.getElem?_append_right (by simp; omega)]
    simp [show j - min j c.length = 0 by omega]
    rfl
  · rw [List.getElem?_set_ne (by omega)] at hx
    have := h j x hx
    rw [Nat.zero_add] at this
    unfold Rd at this
    by_cases hj : j < i
    · rw [List.getElem?_append_left (by simp; omega), List.getElem?_take_of_lt hj]; exact this
    · rw [List.getElem?_append_right (by simp; omega)]
      have e1 : j - (List.take i c).length = (j - i - 1) + 1 := by simp; omega
      rw [e1, List.singleton_append, List.getElem?_cons_succ, List.getElem?_drop]
      have e2 : i + [tgI .i32 z].length + (j - i - 1) = j := by simp; omega
      rw [e2]; exact this
theorem flat_put {c : List Value} {k : IntKind} {z : Int} {i : Nat} (h : FlatL c) : FlatL (lput c i [tgI k z]) := fun v hv => by
  unfold lput at hv
  rw [List.mem_append, List.mem_append] at hv
  rcases hv with hv | hv | hv
  · exact h v (List.mem_of_mem_take hv)
  · rw [List.mem_singleton] at hv; subst hv; rfl
  · exact h v (List.mem_of_mem_drop hv)
theorem irPut {c : List Value} {l i : Nat} {z : Int} (h : Ir c l) (hi : i < l) : Ir (lput c i [tgI .i32 z]) l := by
  obtain ⟨zs, h1, h2⟩ := h.zs
  have hl := h.len
  exact ⟨⟨_, HV.put32 h1 (by omega) (by omega), by simp [h2]⟩, by simp [lput]; omega, flat_put h.flat⟩
theorem irOf {n : Bool} {l k : Nat} {c : List Value} {xs : List Int} (h : Sli (Value.int .i32) 1 n 0 l k c xs) : Ir c l :=
  ⟨⟨xs, h.at_, by have := h.len; omega⟩, by
    cases hn : n with
    | true => have := (h.nil hn).1; omega
    | false => have := h.fit hn; omega, h.flat⟩
def cutX (x : PX) : PX := ⟨x.vars.take 70, x.gone.take 10, x.tips.take 80⟩
theorem Sli.cut {α : Type} {f : α → Value} {sz o l k m q : Nat} {n : Bool} {c : List Value} {xs : List α} (h : Sli f sz n o l k c xs) (hm : m = q * sz) : Sli f sz n o (min l q) k c (xs.take m) :=
  ⟨h.at_.take m, by
    have := h.len
    rw [List.length_take, hm, this]
    rw [Nat.min_comm (q * sz), Nat.mul_min_mul_right], fun hn => ⟨by have := (h.nil hn).1; omega, (h.nil hn).2⟩, fun hn => Nat.le_trans (Nat.add_le_add_left (Nat.mul_le_mul_right _ (Nat.min_le_left _ _)) _) (h.fit hn), Nat.le_trans (Nat.min_le_left _ _) h.cap, h.flat⟩
theorem cutPH {a : PA} {x : PX} (h : PH a x) : PH ⟨⟨a.s1.n, a.s1.o, min a.s1.l 70, a.s1.k, a.s1.c⟩, ⟨a.s2.n, a.s2.o, min a.s2.l 10, a.s2.k, a.s2.c⟩, ⟨a.s3.n, a.s3.o, min a.s3.l 10, a.s3.k, a.s3.c⟩, a.r0, a.r1, a.r2, a.r3, a.r4⟩ (cutX x) :=
  ⟨Sli.cut (q := 70) h.p1 rfl, Sli.cut (q := 10) h.p2 rfl, Sli.cut (q := 10) h.p3 rfl⟩
theorem gl : FlatL cells0 ∧ FlatL cells1 ∧ FlatL cells2 ∧ FlatL cells4 ∧ FlatL cells5 ∧ FlatL cells6 ∧ FlatL cells8 ∧ FlatL cells9 ∧ FlatL cells10 := ⟨fl0, fl1, fl2, fl4, fl5, fl6, fl8, fl9, fl10⟩
theorem rest1 (a : AA) (hn : 0 ≤ a.n ∧ a.n ≤ 65535) : (∀ (x21 : LL), ((0 : Int) ≤ x21.1 ∧ x21.1 ≤ ↑x21.3) ∧ (x21.3 ≤ (70 : Nat) ∧ x21.3 ≤ x21.4) ∧ Ir x21.5 x21.3 ∧ Twin x21.7 x21.6 → ∀ (x22 : Int), x22 = ↑x21.3 → (x21.1 < x22 → ((0 :
Int) ≤ x21.1 ∧ x21.1 < ↑x21.3) ∧ ∀ (x23 : Nat), x23 = (0 : Nat) + Int.toNat x21.1 * (1 : Nat) → ∃ (x24 : Int), Rd x21.5 (Nat.add x23 (0 : Nat)) (Value.int IntKind.i32 x24) ∧ ∀ (x25
: Int), x25 = IntKind.wrap IntKind.i32 (x24 + (1 : Int)) → ((0 : Int) ≤ x21.1 ∧ x21.1 < ↑x21.3) ∧ ∀ (x26 : Nat), x26 = (0 : Nat) + Int.toNat x21.1 * (1 : Nat) → x26 + (1 : Nat) ≤
List.length x21.5 ∧ ∀ (x27 : List Value), x27 = lput x21.5 x26 [Value.iface (1000000007 : Nat) (Value.int IntKind.i32 x25)] → ∀ (x28 : Int), x28 = IntKind.wrap IntKind.i64 (x21.1 +
(1 : Int)) → ∃ (x29 : LL), (((0 : Int) ≤ x29.1 ∧ x29.1 ≤ ↑x29.3) ∧ (x29.3 ≤ (70 : Nat) ∧ x29.3 ≤ x29.4) ∧ Ir x29.5 x29.3 ∧ Twin x29.7 x29.6) ∧ Int.toNat (↑x29.3 - x29.1) <
Int.toNat (↑x21.3 - x21.1) ∧ (a.1 = a.1 ∧ (0 : Nat) = (0 : Nat) ∧ (0 : Nat) = (0 : Nat) ∧ (0 : Nat) = (0 : Nat) ∧ x29.1 = x28 ∧ True) ∧ ((True ∧ ((0 : Nat) = (0 : Nat) ∧ x29.3 =
x21.3 ∧ x29.4 = x21.4) ∧ True ∧ True ∧ True ∧ True ∧ True ∧ True ∧ True ∧ True) ∧ (x29.4 = x21.4 ∧ FlatL x29.5 ∧ x29.5 = x27) ∧ (True ∧ ((PA.s1 (LL.w x29)).1 = (PA.s1 (LL.w x21)).1
∧ (PA.s1 (LL.w x29)).2 = (PA.s1 (LL.w x21)).2 ∧ (PA.s1 (LL.w x29)).3 = (PA.s1 (LL.w x21)).3 ∧ (PA.s1 (LL.w x29)).4 = (PA.s1 (LL.w x21)).4) ∧ ((PA.s2 (LL.w x29)).1 = (PA.s2 (LL.w
x21)).1 ∧ (PA.s2 (LL.w x29)).2 = (PA.s2 (LL.w x21)).2 ∧ (PA.s2 (LL.w x29)).3 = (PA.s2 (LL.w x21)).3 ∧ (PA.s2 (LL.w x29)).4 = (PA.s2 (LL.w x21)).4) ∧ ((PA.s3 (LL.w x29)).1 = (PA.s3
(LL.w x21)).1 ∧ (PA.s3 (LL.w x29)).2 = (PA.s3 (LL.w x21)).2 ∧ (PA.s3 (LL.w x29)).3 = (PA.s3 (LL.w x21)).3 ∧ (PA.s3 (LL.w x29)).4 = (PA.s3 (LL.w x21)).4) ∧ (LL.w x29).4 = (LL.w
x21).4 ∧ (LL.w x29).5 = (LL.w x21).5 ∧ (LL.w x29).6 = (LL.w x21).6 ∧ (LL.w x29).7 = (LL.w x21).7 ∧ (LL.w x29).8 = (LL.w x21).8 ∧ True) ∧ (True ∧ a.1 = a.1 ∧ a.1 = a.1 ∧ ((PA.s1
(LL.q x29)).1 = (PA.s1 (LL.q x21)).1 ∧ (PA.s1 (LL.q x29)).2 = (PA.s1 (LL.q x21)).2 ∧ (PA.s1 (LL.q x29)).3 = (PA.s1 (LL.q x21)).3 ∧ (PA.s1 (LL.q x29)).4 = (PA.s1 (LL.q x21)).4) ∧
((PA.s2 (LL.q x29)).1 = (PA.s2 (LL.q x21)).1 ∧ (PA.s2 (LL.q x29)).2 = (PA.s2 (LL.q x21)).2 ∧ (PA.s2 (LL.q x29)).3 = (PA.s2 (LL.q x21)).3 ∧ (PA.s2 (LL.q x29)).4 = (PA.s2 (LL.q
x21)).4) ∧ ((PA.s3 (LL.q x29)).1 = (PA.s3 (LL.q x21)).1 ∧ (PA.s3 (LL.q x29)).2 = (PA.s3 (LL.q x21)).2 ∧ (PA.s3 (LL.q x29)).3 = (PA.s3 (LL.q x21)).3 ∧ (PA.s3 (LL.q x29)).4 = (PA.s3
(LL.q x21)).4) ∧ (LL.q x29).4 = (LL.q x21).4 ∧ (LL.q x29).5 = (LL.q x21).5 ∧ (LL.q x29).6 = (LL.q x21).6 ∧ (LL.q x29).7 = (LL.q x21).7 ∧ (LL.q x29).8 = (LL.q x21).8 ∧ x29.8 = x21.8
∧ True) ∧ (True ∧ FlatL (PA.s1 (LL.w x29)).5 ∧ (PA.s1 (LL.w x29)).5 = (PA.s1 (LL.w x21)).5) ∧ (True ∧ FlatL (PA.s2 (LL.w x29)).5 ∧ (PA.s2 (LL.w x29)).5 = (PA.s2 (LL.w x21)).5) ∧
(True ∧ FlatL (PA.s3 (LL.w x29)).5 ∧ (PA.s3 (LL.w x29)).5 = (PA.s3 (LL.w x21)).5) ∧ (True ∧ FlatL (PA.s1 (LL.q x29)).5 ∧ (PA.s1 (LL.q x29)).5 = (PA.s1 (LL.q x21)).5) ∧ (True ∧
FlatL (PA.s2 (LL.q x29)).5 ∧ (PA.s2 (LL.q x29)).5 = (PA.s2 (LL.q x21)).5) ∧ (True ∧ FlatL (PA.s3 (LL.q x29)).5 ∧ (PA.s3 (LL.q x29)).5 = (PA.s3 (LL.q x21)).5) ∧ (True ∧ FlatL cells0
∧ cells0 = cells0) ∧ (True ∧ FlatL cells1 ∧ cells1 = cells1) ∧ (True ∧ FlatL cells2 ∧ cells2 = cells2) ∧ (True ∧ FlatL cells4 ∧ cells4 = cells4) ∧ (True ∧ FlatL cells5 ∧ cells5 =
cells5) ∧ (True ∧ FlatL cells6 ∧ cells6 = cells6) ∧ (True ∧ FlatL cells8 ∧ cells8 = cells8) ∧ (True ∧ FlatL cells9 ∧ cells9 = cells9) ∧ (True ∧ FlatL cells10 ∧ cells10 = cells10) ∧
True) ∧ True) ∧ (¬x21.1 < x22 → (True ∧ (∃ (x30 : PX), PH (PA.mk (SA.mk (PA.s1 (LL.q x21)).1 (PA.s1 (LL.q x21)).2 (PA.s1 (LL.q x21)).3 (PA.s1 (LL.q x21)).4 (PA.s1 (LL.q x21)).5)
(SA.mk (PA.s2 (LL.q x21)).1 (PA.s2 (LL.q x21)).2 (PA.s2 (LL.q x21)).3 (PA.s2 (LL.q x21)).4 (PA.s2 (LL.q x21)).5) (SA.mk (PA.s3 (LL.q x21)).1 (PA.s3 (LL.q x21)).2 (PA.s3 (LL.q
x21)).3 (PA.s3 (LL.q x21)).4 (PA.s3 (LL.q x21)).5) (LL.q x21).4 (LL.q x21).5 (LL.q x21).6 (LL.q x21).7 (LL.q x21).8) x30) ∧ (PA.s3 (LL.q x21)).3 ≤ (100 : Nat)) ∧ (((((PA.s1 (LL.q
x21)).1 = (PA.s1 (LL.q x21)).1 ∧ (PA.s1 (LL.q x21)).2 = (PA.s1 (LL.q x21)).2 ∧ (PA.s1 (LL.q x21)).3 = (PA.s1 (LL.q x21)).3 ∧ (PA.s1 (LL.q x21)).4 = (PA.s1 (LL.q x21)).4) ∧ ((PA.s2
(LL.q x21)).1 = (PA.s2 (LL.q x21)).1 ∧ (PA.s2 (LL.q x21)).2 = (PA.s2 (LL.q x21)).2 ∧ (PA.s2 (LL.q x21)).3 = (PA.s2 (LL.q x21)).3 ∧ (PA.s2 (LL.q x21)).4 = (PA.s2 (LL.q x21)).4) ∧
((PA.s3 (LL.q x21)).1 = (PA.s3 (LL.q x21)).1 ∧ (PA.s3 (LL.q x21)).2 = (PA.s3 (LL.q x21)).2 ∧ (PA.s3 (LL.q x21)).3 = (PA.s3 (LL.q x21)).3 ∧ (PA.s3 (LL.q x21)).4 = (PA.s3 (LL.q
x21)).4) ∧ (LL.q x21).4 = (LL.q x21).4 ∧ (LL.q x21).5 = (LL.q x21).5 ∧ (LL.q x21).6 = (LL.q x21).6 ∧ (LL.q x21).7 = (LL.q x21).7 ∧ (LL.q x21).8 = (LL.q x21).8 ∧ True) ∧ True) ∧
(True ∧ FlatL (PA.s1 (LL.q x21)).5 ∧ (PA.s1 (LL.q x21)).5 = (PA.s1 (LL.q x21)).5) ∧ (True ∧ FlatL (PA.s2 (LL.q x21)).5 ∧ (PA.s2 (LL.q x21)).5 = (PA.s2 (LL.q x21)).5) ∧ (True ∧
FlatL (PA.s3 (LL.q x21)).5 ∧ (PA.s3 (LL.q x21)).5 = (PA.s3 (LL.q x21)).5) ∧ True) ∧ (∀ (x31 : RN), (∀ (x32 : List Int), Sli (Value.int IntKind.u8) (8 : Nat) (PA.s3 (LL.q x21)).1
(PA.s3 (LL.q x21)).2 (PA.s3 (LL.q x21)).3 (PA.s3 (LL.q x21)).4 (PA.s3 (LL.q x21)).5 x32 → Sli (Value.int IntKind.u8) (8 : Nat) x31.1 (0 : Nat) (PA.s3 (LL.q x21)).3 x31.2 x31.3 x32)
→ (True ∧ ((∃ (x33 : PX), PH (PA.mk (SA.mk (PA.s1 (LL.q x21)).1 (PA.s1 (LL.q x21)).2 (PA.s1 (LL.q x21)).3 (PA.s1 (LL.q x21)).4 (PA.s1 (LL.q x21)).5) (SA.mk (PA.s2 (LL.q x21)).1
(PA.s2 (LL.q x21)).2 (PA.s2 (LL.q x21)).3 (PA.s2 (LL.q x21)).4 (PA.s2 (LL.q x21)).5) (SA.mk x31.1 (nat_lit 0) (PA.s3 (LL.q x21)).3 x31.2 x31.3) (LL.q x21).4 (LL.q x21).5 (LL.q
x21).6 (LL.q x21).7 (LL.q x21).8) x33 ∧ PW (PA.mk (SA.mk (PA.s1 (LL.q x21)).1 (PA.s1 (LL.q x21)).2 (PA.s1 (LL.q x21)).3 (PA.s1 (LL.q x21)).4 (PA.s1 (LL.q x21)).5) (SA.mk (PA.s2
(LL.q x21)).1 (PA.s2 (LL.q x21)).2 (PA.s2 (LL.q x21)).3 (PA.s2 (LL.q x21)).4 (PA.s2 (LL.q x21)).5) (SA.mk x31.1 (nat_lit 0) (PA.s3 (LL.q x21)).3 x31.2 x31.3) (LL.q x21).4 (LL.q
x21).5 (LL.q x21).6 (LL.q x21).7 (LL.q x21).8) x33) ∧ ∃ (x34 : PX), PH (PA.mk (SA.mk (PA.s1 (LL.w x21)).1 (PA.s1 (LL.w x21)).2 (PA.s1 (LL.w x21)).3 (PA.s1 (LL.w x21)).4 (PA.s1
(LL.w x21)).5) (SA.mk (PA.s2 (LL.w x21)).1 (PA.s2 (LL.w x21)).2 (PA.s2 (LL.w x21)).3 (PA.s2 (LL.w x21)).4 (PA.s2 (LL.w x21)).5) (SA.mk (PA.s3 (LL.w x21)).1 (PA.s3 (LL.w x21)).2
(PA.s3 (LL.w x21)).3 (PA.s3 (LL.w x21)).4 (PA.s3 (LL.w x21)).5) (LL.w x21).4 (LL.w x21).5 (LL.w x21).6 (LL.w x21).7 (LL.w x21).8) x34 ∧ PW (PA.mk (SA.mk (PA.s1 (LL.w x21)).1 (PA.s1
(LL.w x21)).2 (PA.s1 (LL.w x21)).3 (PA.s1 (LL.w x21)).4 (PA.s1 (LL.w x21)).5) (SA.mk (PA.s2 (LL.w x21)).1 (PA.s2 (LL.w x21)).2 (PA.s2 (LL.w x21)).3 (PA.s2 (LL.w x21)).4 (PA.s2
(LL.w x21)).5) (SA.mk (PA.s3 (LL.w x21)).1 (PA.s3 (LL.w x21)).2 (PA.s3 (LL.w x21)).3 (PA.s3 (LL.w x21)).4 (PA.s3 (LL.w x21)).5) (LL.w x21).4 (LL.w x21).5 (LL.w x21).6 (LL.w x21).7
(LL.w x21).8) x34) ∧ ((PA.s1 (LL.q x21)).3 ≤ (70 : Nat) ∧ (PA.s2 (LL.q x21)).3 ≤ (10 : Nat) ∧ (PA.s3 (LL.q x21)).3 ≤ (10 : Nat)) ∧ (PA.s1 (LL.w x21)).3 ≤ (70 : Nat) ∧ (PA.s2 (LL.w
x21)).3 ≤ (10 : Nat) ∧ (PA.s3 (LL.w x21)).3 ≤ (10 : Nat)) ∧ (((((PA.s1 (LL.q x21)).1 = (PA.s1 (LL.q x21)).1 ∧ (PA.s1 (LL.q x21)).2 = (PA.s1 (LL.q x21)).2 ∧ (PA.s1 (LL.q x21)).3 =
(PA.s1 (LL.q x21)).3 ∧ (PA.s1 (LL.q x21)).4 = (PA.s1 (LL.q x21)).4) ∧ ((PA.s2 (LL.q x21)).1 = (PA.s2 (LL.q x21)).1 ∧ (PA.s2 (LL.q x21)).2 = (PA.s2 (LL.q x21)).2 ∧ (PA.s2 (LL.q
x21)).3 = (PA.s2 (LL.q x21)).3 ∧ (PA.s2 (LL.q x21)).4 = (PA.s2 (LL.q x21)).4) ∧ (x31.1 = x31.1 ∧ nat_lit 0 = (0 : Nat) ∧ (PA.s3 (LL.q x21)).3 = (PA.s3 (LL.q x21)).3 ∧ x31.2 =
x31.2) ∧ (LL.q x21).4 = (LL.q x21).4 ∧ (LL.q x21).5 = (LL.q x21).5 ∧ (LL.q x21).6 = (LL.q x21).6 ∧ (LL.q x21).7 = (LL.q x21).7 ∧ (LL.q x21).8 = (LL.q x21).8 ∧ True) ∧ (((PA.s1
(LL.w x21)).1 = (PA.s1 (LL.w x21)).1 ∧ (PA.s1 (LL.w x21)).2 = (PA.s1 (LL.w x21)).2 ∧ (PA.s1 (LL.w x21)).3 = (PA.s1 (LL.w x21)).3 ∧ (PA.s1 (LL.w x21)).4 = (PA.s1 (LL.w x21)).4) ∧
((PA.s2 (LL.w x21)).1 = (PA.s2 (LL.w x21)).1 ∧ (PA.s2 (LL.w x21)).2 = (PA.s2 (LL.w x21)).2 ∧ (PA.s2 (LL.w x21)).3 = (PA.s2 (LL.w x21)).3 ∧ (PA.s2 (LL.w x21)).4 = (PA.s2 (LL.w
x21)).4) ∧ ((PA.s3 (LL.w x21)).1 = (PA.s3 (LL.w x21)).1 ∧ (PA.s3 (LL.w x21)).2 = (PA.s3 (LL.w x21)).2 ∧ (PA.s3 (LL.w x21)).3 = (PA.s3 (LL.w x21)).3 ∧ (PA.s3 (LL.w x21)).4 = (PA.s3
(LL.w x21)).4) ∧ (LL.w x21).4 = (LL.w x21).4 ∧ (LL.w x21).5 = (LL.w x21).5 ∧ (LL.w x21).6 = (LL.w x21).6 ∧ (LL.w x21).7 = (LL.w x21).7 ∧ (LL.w x21).8 = (LL.w x21).8 ∧ True) ∧ True)
∧ (True ∧ FlatL (PA.s1 (LL.q x21)).5 ∧ (PA.s1 (LL.q x21)).5 = (PA.s1 (LL.q x21)).5) ∧ (True ∧ FlatL (PA.s2 (LL.q x21)).5 ∧ (PA.s2 (LL.q x21)).5 = (PA.s2 (LL.q x21)).5) ∧ (True ∧
FlatL x31.3 ∧ x31.3 = x31.3) ∧ (True ∧ FlatL (PA.s1 (LL.w x21)).5 ∧ (PA.s1 (LL.w x21)).5 = (PA.s1 (LL.w x21)).5) ∧ (True ∧ FlatL (PA.s2 (LL.w x21)).5 ∧ (PA.s2 (LL.w x21)).5 =
(PA.s2 (LL.w x21)).5) ∧ (True ∧ FlatL (PA.s3 (LL.w x21)).5 ∧ (PA.s3 (LL.w x21)).5 = (PA.s3 (LL.w x21)).5) ∧ True) ∧ (∀ (x35 : BL), (∀ (x36 x37 : PX), PH (PA.mk (SA.mk (PA.s1 (LL.q
x21)).1 (PA.s1 (LL.q x21)).2 (PA.s1 (LL.q x21)).3 (PA.s1 (LL.q x21)).4 (PA.s1 (LL.q x21)).5) (SA.mk (PA.s2 (LL.q x21)).1 (PA.s2 (LL.q x21)).2 (PA.s2 (LL.q x21)).3 (PA.s2 (LL.q
x21)).4 (PA.s2 (LL.q x21)).5) (SA.mk x31.1 (nat_lit 0) (PA.s3 (LL.q x21)).3 x31.2 x31.3) (LL.q x21).4 (LL.q x21).5 (LL.q x21).6 (LL.q x21).7 (LL.q x21).8) x36 → PH (PA.mk (SA.mk
(PA.s1 (LL.w x21)).1 (PA.s1 (LL.w x21)).2 (PA.s1 (LL.w x21)).3 (PA.s1 (LL.w x21)).4 (PA.s1 (LL.w x21)).5) (SA.mk (PA.s2 (LL.w x21)).1 (PA.s2 (LL.w x21)).2 (PA.s2 (LL.w x21)).3
(PA.s2 (LL.w x21)).4 (PA.s2 (LL.w x21)).5) (SA.mk (PA.s3 (LL.w x21)).1 (PA.s3 (LL.w x21)).2 (PA.s3 (LL.w x21)).3 (PA.s3 (LL.w x21)).4 (PA.s3 (LL.w x21)).5) (LL.w x21).4 (LL.w
x21).5 (LL.w x21).6 (LL.w x21).7 (LL.w x21).8) x37 → (x35.1 = Bool.true ↔ enc (PA.mk (SA.mk (PA.s1 (LL.q x21)).1 (PA.s1 (LL.q x21)).2 (PA.s1 (LL.q x21)).3 (PA.s1 (LL.q x21)).4
(PA.s1 (LL.q x21)).5) (SA.mk (PA.s2 (LL.q x21)).1 (PA.s2 (LL.q x21)).2 (PA.s2 (LL.q x21)).3 (PA.s2 (LL.q x21)).4 (PA.s2 (LL.q x21)).5) (SA.mk x31.1 (nat_lit 0) (PA.s3 (LL.q x21)).3
x31.2 x31.3) (LL.q x21).4 (LL.q x21).5 (LL.q x21).6 (LL.q x21).7 (LL.q x21).8) x36 = enc (PA.mk (SA.mk (PA.s1 (LL.w x21)).1 (PA.s1 (LL.w x21)).2 (PA.s1 (LL.w x21)).3 (PA.s1 (LL.w
x21)).4 (PA.s1 (LL.w x21)).5) (SA.mk (PA.s2 (LL.w x21)).1 (PA.s2 (LL.w x21)).2 (PA.s2 (LL.w x21)).3 (PA.s2 (LL.w x21)).4 (PA.s2 (LL.w x21)).5) (SA.mk (PA.s3 (LL.w x21)).1 (PA.s3
(LL.w x21)).2 (PA.s3 (LL.w x21)).3 (PA.s3 (LL.w x21)).4 (PA.s3 (LL.w x21)).5) (LL.w x21).4 (LL.w x21).5 (LL.w x21).6 (LL.w x21).7 (LL.w x21).8) x37)) → (x35.1 = Bool.true → (True ∧
True ∧ True ∧ (W_G_apart_0 x21 = W_G_apart_0 x21 ∧ True) ∧ True ∧ True ∧ True) ∧ ∀ (x38 : Int), x38 = IntKind.wrap IntKind.i64 a.1 → ∀ (x39 : Int), x39 = IntKind.wrap IntKind.i64
(x38 + (1 : Int)) → (True ∧ (∃ (x40 : PX), PH (PA.mk (SA.mk (PA.s1 (LL.q x21)).1 (PA.s1 (LL.q x21)).2 (PA.s1 (LL.q x21)).3 (PA.s1 (LL.q x21)).4 (PA.s1 (LL.q x21)).5) (SA.mk (PA.s2
(LL.q x21)).1 (PA.s2 (LL.q x21)).2 (PA.s2 (LL.q x21)).3 (PA.s2 (LL.q x21)).4 (PA.s2 (LL.q x21)).5) (SA.mk (PA.s3 (LL.q x21)).1 (PA.s3 (LL.q x21)).2 (PA.s3 (LL.q x21)).3 (PA.s3
(LL.q x21)).4 (PA.s3 (LL.q x21)).5) (LL.q x21).4 (LL.q x21).5 (LL.q x21).6 (LL.q x21).7 (LL.q x21).8) x40) ∧ (wthn x39 (Int.ofNat (3 : Nat)) (Int.ofNat (4 : Nat)) = (0 : Int) ∧ a.1
< x39) ∧ (PA.s1 (LL.q x21)).3 ≤ (100 : Nat) ∧ (PA.s2 (LL.q x21)).3 ≤ (100 : Nat) ∧ (PA.s3 (LL.q x21)).3 ≤ (100 : Nat)) ∧ (((a.1 = a.1 ∧ True ∧ True ∧ True ∧ True ∧ True ∧ True ∧
True ∧ True ∧ True ∧ True ∧ True) ∧ x39 = x39 ∧ (((PA.s1 (LL.q x21)).1 = (PA.s1 (LL.q x21)).1 ∧ (PA.s1 (LL.q x21)).2 = (PA.s1 (LL.q x21)).2 ∧ (PA.s1 (LL.q x21)).3 = (PA.s1 (LL.q
x21)).3 ∧ (PA.s1 (LL.q x21)).4 = (PA.s1 (LL.q x21)).4) ∧ ((PA.s2 (LL.q x21)).1 = (PA.s2 (LL.q x21)).1 ∧ (PA.s2 (LL.q x21)).2 = (PA.s2 (LL.q x21)).2 ∧ (PA.s2 (LL.q x21)).3 = (PA.s2
(LL.q x21)).3 ∧ (PA.s2 (LL.q x21)).4 = (PA.s2 (LL.q x21)).4) ∧ ((PA.s3 (LL.q x21)).1 = (PA.s3 (LL.q x21)).1 ∧ (PA.s3 (LL.q x21)).2 = (PA.s3 (LL.q x21)).2 ∧ (PA.s3 (LL.q x21)).3 =
(PA.s3 (LL.q x21)).3 ∧ (PA.s3 (LL.q x21)).4 = (PA.s3 (LL.q x21)).4) ∧ (LL.q x21).4 = (LL.q x21).4 ∧ (LL.q x21).5 = (LL.q x21).5 ∧ (LL.q x21).6 = (LL.q x21).6 ∧ (LL.q x21).7 = (LL.q
x21).7 ∧ (LL.q x21).8 = (LL.q x21).8 ∧ True) ∧ Int.ofNat (3 : Nat) = (3 : Int) ∧ Int.ofNat (4 : Nat) = (4 : Int) ∧ True) ∧ (True ∧ FlatL (PA.s1 (LL.q x21)).5 ∧ (PA.s1 (LL.q x21)).5
= (PA.s1 (LL.q x21)).5) ∧ (True ∧ FlatL (PA.s2 (LL.q x21)).5 ∧ (PA.s2 (LL.q x21)).5 = (PA.s2 (LL.q x21)).5) ∧ (True ∧ FlatL (PA.s3 (LL.q x21)).5 ∧ (PA.s3 (LL.q x21)).5 = (PA.s3
(LL.q x21)).5) ∧ True) ∧ (∀ (x41 : PB), (∀ (x42 : PX), PH (PA.mk (SA.mk (PA.s1 (LL.q x21)).1 (PA.s1 (LL.q x21)).2 (PA.s1 (LL.q x21)).3 (PA.s1 (LL.q x21)).4 (PA.s1 (LL.q x21)).5)
(SA.mk (PA.s2 (LL.q x21)).1 (PA.s2 (LL.q x21)).2 (PA.s2 (LL.q x21)).3 (PA.s2 (LL.q x21)).4 (PA.s2 (LL.q x21)).5) (SA.mk (PA.s3 (LL.q x21)).1 (PA.s3 (LL.q x21)).2 (PA.s3 (LL.q
x21)).3 (PA.s3 (LL.q x21)).4 (PA.s3 (LL.q x21)).5) (LL.q x21).4 (LL.q x21).5 (LL.q x21).6 (LL.q x21).7 (LL.q x21).8) x42 → PH (PA.mk (SA.mk (PA.s1 (LL.q x21)).1 (0 : Nat) (PA.s1
(LL.q x21)).3 (PB.b1 x41).1 (PB.b1 x41).2) (SA.mk (PA.s2 (LL.q x21)).1 (0 : Nat) (PA.s2 (LL.q x21)).3 (PB.b2 x41).1 (PB.b2 x41).2) (SA.mk (PA.s3 (LL.q x21)).1 (0 : Nat) (PA.s3
(LL.q x21)).3 (PB.b3 x41).1 (PB.b3 x41).2) (LL.q x21).4 (LL.q x21).5 (LL.q x21).6 (LL.q x21).7 (LL.q x21).8) x42) → ∃ (x43 : LL), (((0 : Int) ≤ x43.1 ∧ x43.1 ≤ ↑x43.3) ∧ (x43.3 ≤
(70 : Nat) ∧ x43.3 ≤ x43.4) ∧ Ir x43.5 x43.3 ∧ Twin x43.7 x43.6) ∧ (((0 : Nat) = (0 : Nat) ∧ (0 : Nat) = (0 : Nat) ∧ (0 : Nat) = (0 : Nat) ∧ (0 : Int) = (0 : Int) ∧ x43.1 = (0 :
Int) ∧ True) ∧ ((True ∧ True ∧ True ∧ (x43.2 = (PA.s1 (LL.q x21)).1 ∧ (0 : Nat) = (0 : Nat) ∧ x43.3 = (PA.s1 (LL.q x21)).3 ∧ x43.4 = (PB.b1 x41).1) ∧ True ∧ True ∧ True ∧ True ∧
True ∧ True ∧ True ∧ True ∧ True) ∧ (x43.4 = (PB.b1 x41).1 ∧ FlatL x43.5 ∧ x43.5 = (PB.b1 x41).2) ∧ (True ∧ ((PA.s1 (LL.w x43)).1 = (PA.s1 (LL.w x21)).1 ∧ (PA.s1 (LL.w x43)).2 =
(PA.s1 (LL.w x21)).2 ∧ (PA.s1 (LL.w x43)).3 = (PA.s1 (LL.w x21)).3 ∧ (PA.s1 (LL.w x43)).4 = (PA.s1 (LL.w x21)).4) ∧ ((PA.s2 (LL.w x43)).1 = (PA.s2 (LL.w x21)).1 ∧ (PA.s2 (LL.w
x43)).2 = (PA.s2 (LL.w x21)).2 ∧ (PA.s2 (LL.w x43)).3 = (PA.s2 (LL.w x21)).3 ∧ (PA.s2 (LL.w x43)).4 = (PA.s2 (LL.w x21)).4) ∧ ((PA.s3 (LL.w x43)).1 = (PA.s3 (LL.w x21)).1 ∧ (PA.s3
(LL.w x43)).2 = (PA.s3 (LL.w x21)).2 ∧ (PA.s3 (LL.w x43)).3 = (PA.s3 (LL.w x21)).3 ∧ (PA.s3 (LL.w x43)).4 = (PA.s3 (LL.w x21)).4) ∧ (LL.w x43).4 = (LL.w x21).4 ∧ (LL.w x43).5 =
(LL.w x21).5 ∧ (LL.w x43).6 = (LL.w x21).6 ∧ (LL.w x43).7 = (LL.w x21).7 ∧ (LL.w x43).8 = (LL.w x21).8 ∧ True) ∧ (True ∧ a.1 = a.1 ∧ a.1 = a.1 ∧ ((PA.s1 (LL.q x43)).1 = (PA.s1
(LL.q x21)).1 ∧ (PA.s1 (LL.q x43)).2 = (PA.s1 (LL.q x21)).2 ∧ (PA.s1 (LL.q x43)).3 = (PA.s1 (LL.q x21)).3 ∧ (PA.s1 (LL.q x43)).4 = (PA.s1 (LL.q x21)).4) ∧ ((PA.s2 (LL.q x43)).1 =
(PA.s2 (LL.q x21)).1 ∧ (PA.s2 (LL.q x43)).2 = (PA.s2 (LL.q x21)).2 ∧ (PA.s2 (LL.q x43)).3 = (PA.s2 (LL.q x21)).3 ∧ (PA.s2 (LL.q x43)).4 = (PA.s2 (LL.q x21)).4) ∧ ((PA.s3 (LL.q
x43)).1 = (PA.s3 (LL.q x21)).1 ∧ (PA.s3 (LL.q x43)).2 = (PA.s3 (LL.q x21)).2 ∧ (PA.s3 (LL.q x43)).3 = (PA.s3 (LL.q x21)).3 ∧ (PA.s3 (LL.q x43)).4 = (PA.s3 (LL.q x21)).4) ∧ (LL.q
x43).4 = (LL.q x21).4 ∧ (LL.q x43).5 = (LL.q x21).5 ∧ (LL.q x43).6 = (LL.q x21).6 ∧ (LL.q x43).7 = (LL.q x21).7 ∧ (LL.q x43).8 = (LL.q x21).8 ∧ x43.8 = x21.8 ∧ True) ∧ (True ∧
FlatL (PA.s1 (LL.w x43)).5 ∧ (PA.s1 (LL.w x43)).5 = (PA.s1 (LL.w x21)).5) ∧ (True ∧ FlatL (PA.s2 (LL.w x43)).5 ∧ (PA.s2 (LL.w x43)).5 = (PA.s2 (LL.w x21)).5) ∧ (True ∧ FlatL (PA.s3
(LL.w x43)).5 ∧ (PA.s3 (LL.w x43)).5 = (PA.s3 (LL.w x21)).5) ∧ (True ∧ FlatL (PA.s1 (LL.q x43)).5 ∧ (PA.s1 (LL.q x43)).5 = (PA.s1 (LL.q x21)).5) ∧ (True ∧ FlatL (PA.s2 (LL.q
x43)).5 ∧ (PA.s2 (LL.q x43)).5 = (PA.s2 (LL.q x21)).5) ∧ (True ∧ FlatL (PA.s3 (LL.q x43)).5 ∧ (PA.s3 (LL.q x43)).5 = (PA.s3 (LL.q x21)).5) ∧ (True ∧ FlatL cells0 ∧ cells0 = cells0)
∧ (True ∧ FlatL cells1 ∧ cells1 = cells1) ∧ (True ∧ FlatL cells2 ∧ cells2 = cells2) ∧ (True ∧ FlatL cells4 ∧ cells4 = cells4) ∧ (True ∧ FlatL cells5 ∧ cells5 = cells5) ∧ (True ∧
FlatL cells6 ∧ cells6 = cells6) ∧ (True ∧ FlatL cells8 ∧ cells8 = cells8) ∧ (True ∧ FlatL cells9 ∧ cells9 = cells9) ∧ (True ∧ FlatL cells10 ∧ cells10 = cells10) ∧ True) ∧ True) ∧ ∀
(x44 : LL), ((0 : Int) ≤ x44.1 ∧ x44.1 ≤ ↑x44.3) ∧ (x44.3 ≤ (70 : Nat) ∧ x44.3 ≤ x44.4) ∧ Ir x44.5 x44.3 ∧ Twin x44.7 x44.6 → ∀ (x45 : Int), x45 = ↑x44.3 → (x44.1 < x45 → ((0 :
Int) ≤ x44.1 ∧ x44.1 < ↑x44.3) ∧ ∀ (x46 : Nat), x46 = (0 : Nat) + Int.toNat x44.1 * (1 : Nat) → ∃ (x47 : Int), Rd x44.5 (Nat.add x46 (0 : Nat)) (Value.int IntKind.i32 x47) ∧ ∀ (x48
: Int), x48 = IntKind.wrap IntKind.i32 (x47 + (1 : Int)) → ((0 : Int) ≤ x44.1 ∧ x44.1 < ↑x44.3) ∧ ∀ (x49 : Nat), x49 = (0 : Nat) + Int.toNat x44.1 * (1 : Nat) → x49 + (1 : Nat) ≤
List.length x44.5 ∧ ∀ (x50 : List Value), x50 = lput x44.5 x49 [Value.iface (1000000007 : Nat) (Value.int IntKind.i32 x48)] → ∀ (x51 : Int), x51 = IntKind.wrap IntKind.i64 (x44.1 +
(1 : Int)) → ∃ (x52 : LL), (((0 : Int) ≤ x52.1 ∧ x52.1 ≤ ↑x52.3) ∧ (x52.3 ≤ (70 : Nat) ∧ x52.3 ≤ x52.4) ∧ Ir x52.5 x52.3 ∧ Twin x52.7 x52.6) ∧ Int.toNat (↑x52.3 - x52.1) <
Int.toNat (↑x44.3 - x44.1) ∧ ((0 : Nat) = (0 : Nat) ∧ (0 : Nat) = (0 : Nat) ∧ (0 : Nat) = (0 : Nat) ∧ (0 : Int) = (0 : Int) ∧ x52.1 = x51 ∧ True) ∧ ((True ∧ True ∧ True ∧ (x52.2 =
x44.2 ∧ (0 : Nat) = (0 : Nat) ∧ x52.3 = x44.3 ∧ x52.4 = x44.4) ∧ True ∧ True ∧ True ∧ True ∧ True ∧ True ∧ True ∧ True ∧ True) ∧ (x52.4 = x44.4 ∧ FlatL x52.5 ∧ x52.5 = x50) ∧ (True
∧ ((PA.s1 (LL.w x52)).1 = (PA.s1 (LL.w x44)).1 ∧ (PA.s1 (LL.w x52)).2 = (PA.s1 (LL.w x44)).2 ∧ (PA.s1 (LL.w x52)).3 = (PA.s1 (LL.w x44)).3 ∧ (PA.s1 (LL.w x52)).4 = (PA.s1 (LL.w
x44)).4) ∧ ((PA.s2 (LL.w x52)).1 = (PA.s2 (LL.w x44)).1 ∧ (PA.s2 (LL.w x52)).2 = (PA.s2 (LL.w x44)).2 ∧ (PA.s2 (LL.w x52)).3 = (PA.s2 (LL.w x44)).3 ∧ (PA.s2 (LL.w x52)).4 = (PA.s2
(LL.w x44)).4) ∧ ((PA.s3 (LL.w x52)).1 = (PA.s3 (LL.w x44)).1 ∧ (PA.s3 (LL.w x52)).2 = (PA.s3 (LL.w x44)).2 ∧ (PA.s3 (LL.w x52)).3 = (PA.s3 (LL.w x44)).3 ∧ (PA.s3 (LL.w x52)).4 =
(PA.s3 (LL.w x44)).4) ∧ (LL.w x52).4 = (LL.w x44).4 ∧ (LL.w x52).5 = (LL.w x44).5 ∧ (LL.w x52).6 = (LL.w x44).6 ∧ (LL.w x52).7 = (LL.w x44).7 ∧ (LL.w x52).8 = (LL.w x44).8 ∧ True)
∧ (True ∧ a.1 = a.1 ∧ a.1 = a.1 ∧ ((PA.s1 (LL.q x52)).1 = (PA.s1 (LL.q x44)).1 ∧ (PA.s1 (LL.q x52)).2 = (PA.s1 (LL.q x44)).2 ∧ (PA.s1 (LL.q x52)).3 = (PA.s1 (LL.q x44)).3 ∧ (PA.s1
(LL.q x52)).4 = (PA.s1 (LL.q x44)).4) ∧ ((PA.s2 (LL.q x52)).1 = (PA.s2 (LL.q x44)).1 ∧ (PA.s2 (LL.q x52)).2 = (PA.s2 (LL.q x44)).2 ∧ (PA.s2 (LL.q x52)).3 = (PA.s2 (LL.q x44)).3 ∧
(PA.s2 (LL.q x52)).4 = (PA.s2 (LL.q x44)).4) ∧ ((PA.s3 (LL.q x52)).1 = (PA.s3 (LL.q x44)).1 ∧ (PA.s3 (LL.q x52)).2 = (PA.s3 (LL.q x44)).2 ∧ (PA.s3 (LL.q x52)).3 = (PA.s3 (LL.q
x44)).3 ∧ (PA.s3 (LL.q x52)).4 = (PA.s3 (LL.q x44)).4) ∧ (LL.q x52).4 = (LL.q x44).4 ∧ (LL.q x52).5 = (LL.q x44).5 ∧ (LL.q x52).6 = (LL.q x44).6 ∧ (LL.q x52).7 = (LL.q x44).7 ∧
(LL.q x52).8 = (LL.q x44).8 ∧ x52.8 = x44.8 ∧ True) ∧ (True ∧ FlatL (PA.s1 (LL.w x52)).5 ∧ (PA.s1 (LL.w x52)).5 = (PA.s1 (LL.w x44)).5) ∧ (True ∧ FlatL (PA.s2 (LL.w x52)).5 ∧
(PA.s2 (LL.w x52)).5 = (PA.s2 (LL.w x44)).5) ∧ (True ∧ FlatL (PA.s3 (LL.w x52)).5 ∧ (PA.s3 (LL.w x52)).5 = (PA.s3 (LL.w x44)).5) ∧ (True ∧ FlatL (PA.s1 (LL.q x52)).5 ∧ (PA.s1 (LL.q
x52)).5 = (PA.s1 (LL.q x44)).5) ∧ (True ∧ FlatL (PA.s2 (LL.q x52)).5 ∧ (PA.s2 (LL.q x52)).5 = (PA.s2 (LL.q x44)).5) ∧ (True ∧ FlatL (PA.s3 (LL.q x52)).5 ∧ (PA.s3 (LL.q x52)).5 =
(PA.s3 (LL.q x44)).5) ∧ (True ∧ FlatL cells0 ∧ cells0 = cells0) ∧ (True ∧ FlatL cells1 ∧ cells1 = cells1) ∧ (True ∧ FlatL cells2 ∧ cells2 = cells2) ∧ (True ∧ FlatL cells4 ∧ cells4
= cells4) ∧ (True ∧ FlatL cells5 ∧ cells5 = cells5) ∧ (True ∧ FlatL cells6 ∧ cells6 = cells6) ∧ (True ∧ FlatL cells8 ∧ cells8 = cells8) ∧ (True ∧ FlatL cells9 ∧ cells9 = cells9) ∧
(True ∧ FlatL cells10 ∧ cells10 = cells10) ∧ True) ∧ True) ∧ (¬x44.1 < x45 → (True ∧ True) ∧ (True ∧ (True ∧ FlatL cells0 ∧ cells0 = cells0) ∧ (True ∧ FlatL cells1 ∧ cells1 =
cells1) ∧ (True ∧ FlatL cells2 ∧ cells2 = cells2) ∧ (True ∧ FlatL cells4 ∧ cells4 = cells4) ∧ (True ∧ FlatL cells5 ∧ cells5 = cells5) ∧ (True ∧ FlatL cells6 ∧ cells6 = cells6) ∧
(True ∧ FlatL cells8 ∧ cells8 = cells8) ∧ (True ∧ FlatL cells9 ∧ cells9 = cells9) ∧ (True ∧ FlatL cells10 ∧ cells10 = cells10) ∧ True) ∧ (∀ (x53 : Unit), True → (True ∧ (∃ (x54 :
PX), PH (PA.mk (SA.mk (PA.s1 (LL.q x44)).1 (PA.s1 (LL.q x44)).2 (PA.s1 (LL.q x44)).3 (PA.s1 (LL.q x44)).4 (PA.s1 (LL.q x44)).5) (SA.mk (PA.s2 (LL.q x44)).1 (PA.s2 (LL.q x44)).2
(PA.s2 (LL.q x44)).3 (PA.s2 (LL.q x44)).4 (PA.s2 (LL.q x44)).5) (SA.mk (PA.s3 (LL.q x44)).1 (PA.s3 (LL.q x44)).2 (PA.s3 (LL.q x44)).3 (PA.s3 (LL.q x44)).4 (PA.s3 (LL.q x44)).5)
(LL.q x44).4 (LL.q x44).5 (LL.q x44).6 (LL.q x44).7 (LL.q x44).8) x54) ∧ (PA.s3 (LL.q x44)).3 ≤ (100 : Nat)) ∧ (((((PA.s1 (LL.q x44)).1 = (PA.s1 (LL.q x44)).1 ∧ (PA.s1 (LL.q
x44)).2 = (PA.s1 (LL.q x44)).2 ∧ (PA.s1 (LL.q x44)).3 = (PA.s1 (LL.q x44)).3 ∧ (PA.s1 (LL.q x44)).4 = (PA.s1 (LL.q x44)).4) ∧ ((PA.s2 (LL.q x44)).1 = (PA.s2 (LL.q x44)).1 ∧ (PA.s2
(LL.q x44)).2 = (PA.s2 (LL.q x44)).2 ∧ (PA.s2 (LL.q x44)).3 = (PA.s2 (LL.q x44)).3 ∧ (PA.s2 (LL.q x44)).4 = (PA.s2 (LL.q x44)).4) ∧ ((PA.s3 (LL.q x44)).1 = (PA.s3 (LL.q x44)).1 ∧
(PA.s3 (LL.q x44)).2 = (PA.s3 (LL.q x44)).2 ∧ (PA.s3 (LL.q x44)).3 = (PA.s3 (LL.q x44)).3 ∧ (PA.s3 (LL.q x44)).4 = (PA.s3 (LL.q x44)).4) ∧ (LL.q x44).4 = (LL.q x44).4 ∧ (LL.q
x44).5 = (LL.q x44).5 ∧ (LL.q x44).6 = (LL.q x44).6 ∧ (LL.q x44).7 = (LL.q x44).7 ∧ (LL.q x44).8 = (LL.q x44).8 ∧ True) ∧ True) ∧ (True ∧ FlatL (PA.s1 (LL.q x44)).5 ∧ (PA.s1 (LL.q
x44)).5 = (PA.s1 (LL.q x44)).5) ∧ (True ∧ FlatL (PA.s2 (LL.q x44)).5 ∧ (PA.s2 (LL.q x44)).5 = (PA.s2 (LL.q x44)).5) ∧ (True ∧ FlatL (PA.s3 (LL.q x44)).5 ∧ (PA.s3 (LL.q x44)).5 =
(PA.s3 (LL.q x44)).5) ∧ True) ∧ (∀ (x55 : RN), (∀ (x56 : List Int), Sli (Value.int IntKind.u8) (8 : Nat) (PA.s3 (LL.q x44)).1 (PA.s3 (LL.q x44)).2 (PA.s3 (LL.q x44)).3 (PA.s3 (LL.q
x44)).4 (PA.s3 (LL.q x44)).5 x56 → Sli (Value.int IntKind.u8) (8 : Nat) x55.1 (0 : Nat) (PA.s3 (LL.q x44)).3 x55.2 x55.3 x56) → (True ∧ ((∃ (x57 : PX), PH (PA.mk (SA.mk (PA.s1
(LL.q x44)).1 (PA.s1 (LL.q x44)).2 (PA.s1 (LL.q x44)).3 (PA.s1 (LL.q x44)).4 (PA.s1 (LL.q x44)).5) (SA.mk (PA.s2 (LL.q x44)).1 (PA.s2 (LL.q x44)).2 (PA.s2 (LL.q x44)).3 (PA.s2
(LL.q x44)).4 (PA.s2 (LL.q x44)).5) (SA.mk x55.1 (nat_lit 0) (PA.s3 (LL.q x44)).3 x55.2 x55.3) (LL.q x44).4 (LL.q x44).5 (LL.q x44).6 (LL.q x44).7 (LL.q x44).8) x57 ∧ PW (PA.mk
(SA.mk (PA.s1 (LL.q x44)).1 (PA.s1 (LL.q x44)).2 (PA.s1 (LL.q x44)).3 (PA.s1 (LL.q x44)).4 (PA.s1 (LL.q x44)).5) (SA.mk (PA.s2 (LL.q x44)).1 (PA.s2 (LL.q x44)).2 (PA.s2 (LL.q
x44)).3 (PA.s2 (LL.q x44)).4 (PA.s2 (LL.q x44)).5) (SA.mk x55.1 (nat_lit 0) (PA.s3 (LL.q x44)).3 x55.2 x55.3) (LL.q x44).4 (LL.q x44).5 (LL.q x44).6 (LL.q x44).7 (LL.q x44).8) x57)
∧ ∃ (x58 : PX), PH (PA.mk (SA.mk (PA.s1 (LL.w x44)).1 (PA.s1 (LL.w x44)).2 (PA.s1 (LL.w x44)).3 (PA.s1 (LL.w x44)).4 (PA.s1 (LL.w x44)).5) (SA.mk (PA.s2 (LL.w x44)).1 (PA.s2 (LL.w
x44)).2 (PA.s2 (LL.w x44)).3 (PA.s2 (LL.w x44)).4 (PA.s2 (LL.w x44)).5) (SA.mk (PA.s3 (LL.w x44)).1 (PA.s3 (LL.w x44)).2 (PA.s3 (LL.w x44)).3 (PA.s3 (LL.w x44)).4 (PA.s3 (LL.w
x44)).5) (LL.w x44).4 (LL.w x44).5 (LL.w x44).6 (LL.w x44).7 (LL.w x44).8) x58 ∧ PW (PA.mk (SA.mk (PA.s1 (LL.w x44)).1 (PA.s1 (LL.w x44)).2 (PA.s1 (LL.w x44)).3 (PA.s1 (LL.w
x44)).4 (PA.s1 (LL.w x44)).5) (SA.mk (PA.s2 (LL.w x44)).1 (PA.s2 (LL.w x44)).2 (PA.s2 (LL.w x44)).3 (PA.s2 (LL.w x44)).4 (PA.s2 (LL.w x44)).5) (SA.mk (PA.s3 (LL.w x44)).1 (PA.s3
(LL.w x44)).2 (PA.s3 (LL.w x44)).3 (PA.s3 (LL.w x44)).4 (PA.s3 (LL.w x44)).5) (LL.w x44).4 (LL.w x44).5 (LL.w x44).6 (LL.w x44).7 (LL.w x44).8) x58) ∧ ((PA.s1 (LL.q x44)).3 ≤ (70 :
Nat) ∧ (PA.s2 (LL.q x44)).3 ≤ (10 : Nat) ∧ (PA.s3 (LL.q x44)).3 ≤ (10 : Nat)) ∧ (PA.s1 (LL.w x44)).3 ≤ (70 : Nat) ∧ (PA.s2 (LL.w x44)).3 ≤ (10 : Nat) ∧ (PA.s3 (LL.w x44)).3 ≤ (10 :
Nat)) ∧ (((((PA.s1 (LL.q x44)).1 = (PA.s1 (LL.q x44)).1 ∧ (PA.s1 (LL.q x44)).2 = (PA.s1 (LL.q x44)).2 ∧ (PA.s1 (LL.q x44)).3 = (PA.s1 (LL.q x44)).3 ∧ (PA.s1 (LL.q x44)).4 = (PA.s1
(LL.q x44)).4) ∧ ((PA.s2 (LL.q x44)).1 = (PA.s2 (LL.q x44)).1 ∧ (PA.s2 (LL.q x44)).2 = (PA.s2 (LL.q x44)).2 ∧ (PA.s2 (LL.q x44)).3 = (PA.s2 (LL.q x44)).3 ∧ (PA.s2 (LL.q x44)).4 =
(PA.s2 (LL.q x44)).4) ∧ (x55.1 = x55.1 ∧ nat_lit 0 = (0 : Nat) ∧ (PA.s3 (LL.q x44)).3 = (PA.s3 (LL.q x44)).3 ∧ x55.2 = x55.2) ∧ (LL.q x44).4 = (LL.q x44).4 ∧ (LL.q x44).5 = (LL.q
x44).5 ∧ (LL.q x44).6 = (LL.q x44).6 ∧ (LL.q x44).7 = (LL.q x44).7 ∧ (LL.q x44).8 = (LL.q x44).8 ∧ True) ∧ (((PA.s1 (LL.w x44)).1 = (PA.s1 (LL.w x44)).1 ∧ (PA.s1 (LL.w x44)).2 =
(PA.s1 (LL.w x44)).2 ∧ (PA.s1 (LL.w x44)).3 = (PA.s1 (LL.w x44)).3 ∧ (PA.s1 (LL.w x44)).4 = (PA.s1 (LL.w x44)).4) ∧ ((PA.s2 (LL.w x44)).1 = (PA.s2 (LL.w x44)).1 ∧ (PA.s2 (LL.w
x44)).2 = (PA.s2 (LL.w x44)).2 ∧ (PA.s2 (LL.w x44)).3 = (PA.s2 (LL.w x44)).3 ∧ (PA.s2 (LL.w x44)).4 = (PA.s2 (LL.w x44)).4) ∧ ((PA.s3 (LL.w x44)).1 = (PA.s3 (LL.w x44)).1 ∧ (PA.s3
(LL.w x44)).2 = (PA.s3 (LL.w x44)).2 ∧ (PA.s3 (LL.w x44)).3 = (PA.s3 (LL.w x44)).3 ∧ (PA.s3 (LL.w x44)).4 = (PA.s3 (LL.w x44)).4) ∧ (LL.w x44).4 = (LL.w x44).4 ∧ (LL.w x44).5 =
(LL.w x44).5 ∧ (LL.w x44).6 = (LL.w x44).6 ∧ (LL.w x44).7 = (LL.w x44).7 ∧ (LL.w x44).8 = (LL.w x44).8 ∧ True) ∧ True) ∧ (True ∧ FlatL (PA.s1 (LL.q x44)).5 ∧ (PA.s1 (LL.q x44)).5 =
(PA.s1 (LL.q x44)).5) ∧ (True ∧ FlatL (PA.s2 (LL.q x44)).5 ∧ (PA.s2 (LL.q x44)).5 = (PA.s2 (LL.q x44)).5) ∧ (True ∧ FlatL x55.3 ∧ x55.3 = x55.3) ∧ (True ∧ FlatL (PA.s1 (LL.w
x44)).5 ∧ (PA.s1 (LL.w x44)).5 = (PA.s1 (LL.w x44)).5) ∧ (True ∧ FlatL (PA.s2 (LL.w x44)).5 ∧ (PA.s2 (LL.w x44)).5 = (PA.s2 (LL.w x44)).5) ∧ (True ∧ FlatL (PA.s3 (LL.w x44)).5 ∧
(PA.s3 (LL.w x44)).5 = (PA.s3 (LL.w x44)).5) ∧ True) ∧ (∀ (x59 : BL), (∀ (x60 x61 : PX), PH (PA.mk (SA.mk (PA.s1 (LL.q x44)).1 (PA.s1 (LL.q x44)).2 (PA.s1 (LL.q x44)).3 (PA.s1
(LL.q x44)).4 (PA.s1 (LL.q x44)).5) (SA.mk (PA.s2 (LL.q x44)).1 (PA.s2 (LL.q x44)).2 (PA.s2 (LL.q x44)).3 (PA.s2 (LL.q x44)).4 (PA.s2 (LL.q x44)).5) (SA.mk x55.1 (nat_lit 0) (PA.s3
(LL.q x44)).3 x55.2 x55.3) (LL.q x44).4 (LL.q x44).5 (LL.q x44).6 (LL.q x44).7 (LL.q x44).8) x60 → PH (PA.mk (SA.mk (PA.s1 (LL.w x44)).1 (PA.s1 (LL.w x44)).2 (PA.s1 (LL.w x44)).3
(PA.s1 (LL.w x44)).4 (PA.s1 (LL.w x44)).5) (SA.mk (PA.s2 (LL.w x44)).1 (PA.s2 (LL.w x44)).2 (PA.s2 (LL.w x44)).3 (PA.s2 (LL.w x44)).4 (PA.s2 (LL.w x44)).5) (SA.mk (PA.s3 (LL.w
x44)).1 (PA.s3 (LL.w x44)).2 (PA.s3 (LL.w x44)).3 (PA.s3 (LL.w x44)).4 (PA.s3 (LL.w x44)).5) (LL.w x44).4 (LL.w x44).5 (LL.w x44).6 (LL.w x44).7 (LL.w x44).8) x61 → (x59.1 =
Bool.true ↔ enc (PA.mk (SA.mk (PA.s1 (LL.q x44)).1 (PA.s1 (LL.q x44)).2 (PA.s1 (LL.q x44)).3 (PA.s1 (LL.q x44)).4 (PA.s1 (LL.q x44)).5) (SA.mk (PA.s2 (LL.q x44)).1 (PA.s2 (LL.q
x44)).2 (PA.s2 (LL.q x44)).3 (PA.s2 (LL.q x44)).4 (PA.s2 (LL.q x44)).5) (SA.mk x55.1 (nat_lit 0) (PA.s3 (LL.q x44)).3 x55.2 x55.3) (LL.q x44).4 (LL.q x44).5 (LL.q x44).6 (LL.q
x44).7 (LL.q x44).8) x60 = enc (PA.mk (SA.mk (PA.s1 (LL.w x44)).1 (PA.s1 (LL.w x44)).2 (PA.s1 (LL.w x44)).3 (PA.s1 (LL.w x44)).4 (PA.s1 (LL.w x44)).5) (SA.mk (PA.s2 (LL.w x44)).1
(PA.s2 (LL.w x44)).2 (PA.s2 (LL.w x44)).3 (PA.s2 (LL.w x44)).4 (PA.s2 (LL.w x44)).5) (SA.mk (PA.s3 (LL.w x44)).1 (PA.s3 (LL.w x44)).2 (PA.s3 (LL.w x44)).3 (PA.s3 (LL.w x44)).4
(PA.s3 (LL.w x44)).5) (LL.w x44).4 (LL.w x44).5 (LL.w x44).6 (LL.w x44).7 (LL.w x44).8) x61)) → (True ∧ True ∧ True ∧ True ∧ True ∧ True ∧ True ∧ True ∧ True ∧ (W_G_apart_0 x44 =
W_G_apart_0 x44 ∧ True) ∧ True ∧ True ∧ True ∧ True) ∧ ∃ (x62 : Unit), True ∧ Bool.true = x59.1 ∧ True) ∧ True) ∧ True) ∧ True)) ∧ True) ∧ (x35.1 = Bool.false → (True ∧ True ∧ True
∧ (W_G_apart_0 x21 = W_G_apart_0 x21 ∧ True) ∧ True ∧ True ∧ True) ∧ ∃ (x63 : Unit), True ∧ Bool.true = Bool.false ∧ True)) ∧ True) ∧ True)) := by
  simp only [eq_self, true_and, and_true]
  obtain ⟨w0, w1, w2, w4, w5, w6, w8, w9, w10⟩ := gl
  rintro ⟨i, nb, l, k, c, w, q, u⟩ ⟨⟨hi0, hi1⟩, ⟨hl, hk⟩, hir, tw⟩ z24 e24
  dsimp only at hi0 hi1 hl hk hir tw e24 ⊢
  obtain ⟨⟨xx, ⟨hq, wq⟩, hww, www⟩, tl, t0, t1, t2, t3, t4, tb1, tb2⟩ := id tw
  have hir2 := hir.flat
  have f1 := hq.p1.flat
  have f2 := hq.p2.flat
  have f3 := hq.p3.flat
  have f4 := hww.p1.flat
  have f5 := hww.p2.flat
  have f6 := hww.p3.flat
  have hlen := hir.len
  refine ⟨fun hlt => ?_, fun hge => ?_⟩
  · obtain ⟨zs, hz, hzl⟩ := hir.zs
    have hiz : i.toNat < zs.length := by omega
    refine ⟨⟨hi0, by omega⟩, fun p hp => ⟨zs[i.toNat], by rw [hp, Nat.mul_one]; exact hz.get hiz, fun v hv => ⟨⟨hi0, by omega⟩, fun p2 hp2 => ⟨by omega, fun ys hys z hzz => ?_⟩⟩⟩⟩
    rw [wrap_i64] at hzz
    have hput : Ir ys l := by rw [hys, hp2, Nat.zero_add, Nat.mul_one]; exact irPut hir (by omega)
    have hfl := hput.flat
    refine ⟨⟨z, nb, l, k, ys, w, q, u⟩, ⟨⟨by show 0 ≤ z; omega, by show z ≤ (l : Int); omega⟩, ⟨hl, hk⟩, hput, tw⟩, by show ((l : Int) - z).toNat < ((l : Int) - i).toNat; omega, ?_⟩
    repeat' first | with_reducible apply And.intro | exact trivial | exact rfl | assumption
  refine ⟨⟨⟨xx, hq⟩, by omega⟩, ⟨f1, f2, f3⟩, fun o ho => ?_⟩
  have hs := ho _ hq.p3
  have f7 := hs.flat
  have hq' : PH ⟨q.s1, q.s2, ⟨o.n, 0, q.s3.l, o.k, o.c⟩, q.r0, q.r1, q.r2, q.r3, q.r4⟩ xx := ⟨hq.p1, hq.p2, hs⟩
  have wq' : PW ⟨q.s1, q.s2, ⟨o.n, 0, q.s3.l, o.k, o.c⟩, q.r0, q.r1, q.r2, q.r3, q.r4⟩ xx := ⟨wq.v, wq.r0, wq.r1, wq.r2, wq.r3, wq.r4⟩
  have een : enc ⟨q.s1, q.s2, ⟨o.n, 0, q.s3.l, o.k, o.c⟩, q.r0, q.r1, q.r2, q.r3, q.r4⟩ xx = enc w xx := by simp [enc, encR, t0, t1, t2, t3, t4, tl]
  refine ⟨⟨⟨⟨xx, hq', wq'⟩, xx, hww, www⟩, tb1, tb2⟩, ⟨f1, f2, f7, f4, f5, f6⟩, fun b hb => ⟨fun ht z41 e41 z42 e42 => ?_, fun hf => ?_⟩⟩
  · rw [wrap_i64] at e41 e42
    refine ⟨⟨⟨xx, hq⟩, ⟨by show wthn z42 3 4 = 0; unfold wthn; rw [if_pos (by omega)], by omega⟩, by omega, by omega, by omega⟩, ⟨⟨rfl, rfl⟩, f1, f2, f3⟩, fun b2 hb2 => ?_⟩
    have h2 := hb2 _ hq
    have g1 := h2.p1.flat
    refine ⟨⟨0, q.s1.n, q.s1.l, b2.b1.k, b2.b1.c, w, q, u⟩, ⟨⟨by show (0 : Int) ≤ 0; decide, by show (0 : Int) ≤ _; omega⟩, ⟨tb1.1, h2.p1.cap⟩, irOf h2.p1, tw⟩, ?_, ?_⟩
    · repeat' first | with_reducible apply And.intro | exact trivial | exact rfl | assumption
    clear hir hir2 hlen hb hb2 h2 g1 ho hs f7 hq' wq' een tw hq wq hww www f1 f2 f3 f4 f5 f6
    rintro ⟨i, nb, l, k, c, w, q, u⟩ ⟨⟨hi0, hi1⟩, ⟨hl, hk⟩, hir, tw⟩ z50 e50
    dsimp only at hi0 hi1 hl hk hir tw e50 ⊢
    obtain ⟨⟨xx, ⟨hq, wq⟩, hww, www⟩, tl, t0, t1, t2, t3, t4, tb1, tb2⟩ := id tw
    have hir2 := hir.flat
    have f1 := hq.p1.flat
    have f2 := hq.p2.flat
    have f3 := hq.p3.flat
    have f4 := hww.p1.flat
    have f5 := hww.p2.flat
    have f6 := hww.p3.flat
    have hlen := hir.len
    refine ⟨fun hlt => ?_, fun hge => ?_⟩
    · obtain ⟨zs, hz, hzl⟩ := hir.zs
      have hiz : i.toNat < zs.length := by omega
      refine ⟨⟨hi0, by omega⟩, fun p hp => ⟨zs[i.toNat], by rw [hp, Nat.mul_one]; exact hz.get hiz, fun v hv => ⟨⟨hi0, by omega⟩, fun p2 hp2 => ⟨by omega, fun ys hys z hzz => ?_⟩⟩⟩⟩
      rw [wrap_i64] at hzz
      have hput : Ir ys l := by rw [hys, hp2, Nat.zero_add, Nat.mul_one]; exact irPut hir (by omega)
      have hfl := hput.flat
      refine ⟨⟨z, nb, l, k, ys, w, q, u⟩, ⟨⟨by show 0 ≤ z; omega, by show z ≤ (l : Int); omega⟩, ⟨hl, hk⟩, hput, tw⟩, by show ((l : Int) - z).toNat < ((l : Int) - i).toNat; omega, ?_⟩
      repeat' first | with_reducible apply And.intro | exact trivial | exact rfl | assumption
    refine ⟨gl, fun _ _ => ⟨⟨⟨xx, hq⟩, by omega⟩, ⟨f1, f2, f3⟩, fun o ho => ?_⟩⟩
    have hs := ho _ hq.p3
    have f7 := hs.flat
    have hq' : PH ⟨q.s1, q.s2, ⟨o.n, 0, q.s3.l, o.k, o.c⟩, q.r0, q.r1, q.r2, q.r3, q.r4⟩ xx := ⟨hq.p1, hq.p2, hs⟩
    have wq' : PW ⟨q.s1, q.s2, ⟨o.n, 0, q.s3.l, o.k, o.c⟩, q.r0, q.r1, q.r2, q.r3, q.r4⟩ xx := ⟨wq.v, wq.r0, wq.r1, wq.r2, wq.r3, wq.r4⟩
    have een : enc ⟨q.s1, q.s2, ⟨o.n, 0, q.s3.l, o.k, o.c⟩, q.r0, q.r1, q.r2, q.r3, q.r4⟩ xx = enc w xx := by simp [enc, encR, t0, t1, t2, t3, t4, tl]
    refine ⟨⟨⟨⟨xx, hq', wq'⟩, xx, hww, www⟩, tb1, tb2⟩, ⟨f1, f2, f7, f4, f5, f6⟩, fun b hb => ⟨(), ((hb xx xx hq' hww).2 een).symm⟩⟩
  · exact absurd (((hb xx xx hq' hww).2 een).symm.trans hf) (by decide)
theorem g_apart (a : AA) (hp : ∃ x, PH a.p x ∧ PW a.p x) (hn : 0 ≤ a.n ∧ a.n ≤ 65535) : G_apart a := by
  obtain ⟨x, hx, hw⟩ := hp
  obtain ⟨w0, w1, w2, w4, w5, w6, w8, w9, w10⟩ := gl
  have pw : ∀ p : PA, p.r0 = a.p.r0 → p.r1 = a.p.r1 → p.r2 = a.p.r2 → p.r3 = a.p.r3 → p.r4 = a.p.r4 → PW p (cutX x) := fun p e0 e1 e2 e3 e4 =>
    ⟨fun n hn => hw.v n (List.mem_of_mem_take hn), by rw [e0]; exact hw.r0, by rw [e1]; exact hw.r1, by rw [e2]; exact hw.r2, by rw [e3]; exact hw.r3, by rw [e4]; exact hw.r4⟩
  rw [vc_apart]
  simp only [eq_self, true_and, and_true]
  have hc := cutPH hx
  refine ⟨⟨x, hx⟩, ⟨hx.p1.flat, hx.p2.flat, hx.p3.flat⟩, fun _ _ => ⟨⟨⟨_, hc⟩, by omega, by omega, by omega⟩, ⟨hx.p1.flat, hx.p2.flat, hx.p3.flat⟩, fun b0 hb0 => ?_⟩⟩
  have h0 := hb0 _ hc
  have hlen : (cutX x).vars.length = min a.p.s1.l 70 := by have := h0.p1.len; simpa using this
  refine ⟨⟨⟨_, h0⟩, by omega⟩, ⟨h0.p1.flat, h0.p2.flat, h0.p3.flat⟩, fun o0 ho0 => ⟨fun hnil => ⟨fun _ => ⟨Nat.le_refl _, fun l' c' hl' hc' => ?_⟩, fun h => absurd (Nat.le_refl 0) h⟩, fun hne => ⟨by have := h0.p1.fit hne; omega, fun ys hys => ⟨fun hz0 => ⟨?_, ?_, fun l' c' hl' hc' => ?_⟩, fun hz0 => ⟨by unfold Few; omega, Nat.le_refl _, fun l' c' hl' hc' => ?_⟩⟩⟩⟩⟩
  · have hm : min a.p.s1.l 70 = 0 := (h0.p1.nil hnil).1
    have hx0 : (cutX x).vars = [] := List.eq_nil_of_length_eq_zero (by omega)
    have hc0 : c' = [] := by rw [hc']; rfl
    have hV : Sli (Value.int .i32) 1 false 0 l' 0 c' (cutX x).vars := by
      rw [hc0, hl', hx0]; exact .row .nil rfl (Nat.le_refl _) flatL_nil
    have hP : PH ⟨⟨false, 0, l', 0, c'⟩, ⟨a.p.s2.n, 0, min a.p.s2.l 10, b0.b2.k, b0.b2.c⟩, ⟨a.p.s3.n, 0, min a.p.s3.l 10, b0.b3.k, b0.b3.c⟩, a.p.r0, a.p.r1, a.p.r2, a.p.r3, a.p.r4⟩ (cutX x) := ⟨hV, h0.p2, h0.p3⟩
    have hl70 : l' ≤ 70 := by omega
    refine ⟨⟨⟨_, hP⟩, by omega, by omega, by omega⟩, ⟨hP.p1.flat, hP.p2.flat, hP.p3.flat⟩, fun b1 hb1 => ?_⟩
    have h1 := hb1 _ hP
    refine ⟨⟨⟨_, h1⟩, by omega⟩, ⟨h1.p1.flat, h1.p2.flat, h1.p3.flat⟩, fun o1 ho1 z16 e16 => ?_⟩
    have hs := ho1 _ h1.p3
    rw [wrap_i64] at e16
    have ez16 : a.n = z16 := by omega
    refine ⟨⟨⟨_, hP⟩, by show wthn z16 3 4 = 0; unfold wthn; rw [if_pos (by omega)], by omega, by omega, by omega⟩, ⟨⟨rfl, rfl⟩, hP.p1.flat, hP.p2.flat, hP.p3.flat⟩, fun b2 hb2 => ?_⟩
    have h2 := hb2 _ hP
    have hW : PH ⟨⟨false, 0, l', b1.b1.k, b1.b1.c⟩, ⟨a.p.s2.n, 0, min a.p.s2.l 10, b1.b2.k, b1.b2.c⟩, ⟨o1.n, 0, min a.p.s3.l 10, o1.k, o1.c⟩, a.p.r0, a.p.r1, a.p.r2, a.p.r3, a.p.r4⟩ (cutX x) := ⟨h1.p1, h1.p2, hs⟩
    have g1 := hW.p1.flat
    have g2 := hW.p2.flat
    have g3 := hW.p3.flat
    have g4 := h2.p1.flat
    have g5 := h2.p2.flat
    have g6 := h2.p3.flat
    have g7 := hP.p1.flat
    have g8 : (7 : Int) = Int.ofNat 3 + Int.ofNat 4 := rfl
    refine ⟨⟨0, false, l', 0, c', ⟨⟨false, 0, l', b1.b1.k, b1.b1.c⟩, ⟨a.p.s2.n, 0, min a.p.s2.l 10, b1.b2.k, b1.b2.c⟩, ⟨o1.n, 0, min a.p.s3.l 10, o1.k, o1.c⟩, a.p.r0, a.p.r1, a.p.r2, a.p.r3, a.p.r4⟩, ⟨⟨false, 0, l', b2.b1.k, b2.b1.c⟩, ⟨a.p.s2.n, 0, min a.p.s2.l 10, b2.b2.k, b2.b2.c⟩, ⟨a.p.s3.n, 0, min a.p.s3.l 10, b2.b3.k, b2.b3.c⟩, a.p.r0, a.p.r1, a.p.r2, a.p.r3, a.p.r4⟩, 7⟩, ⟨⟨by show (0 : Int) ≤ 0; decide, by show (0 : Int) ≤ _; omega⟩, ⟨hl70, hV.cap⟩, irOf hV, ⟨⟨cutX x, ⟨h2, pw _ rfl rfl rfl rfl rfl⟩, hW, pw _ rfl rfl rfl rfl rfl⟩, rfl, rfl, rfl, rfl, rfl, rfl, ⟨hl70, by show min a.p.s2.l 10 ≤ 10; omega, by show min a.p.s3.l 10 ≤ 10; omega⟩, ⟨hl70, by show min a.p.s2.l 10 ≤ 10; omega, by show min a.p.s3.l 10 ≤ 10; omega⟩⟩⟩, ?_, ?_⟩
    · repeat' first | with_reducible apply And.intro | exact trivial | exact rfl | assumption
    · have r1 := rest1 a hn
      simp only [eq_self, true_and, and_true] at r1
      exact r1
  · have hwn : HE .i32 ys (cutX x).vars := by rw [hys]; exact h0.p1.win hne
    exact hwn.oneK
  · have hwn : HE .i32 ys (cutX x).vars := by rw [hys]; exact h0.p1.win hne
    have := hwn.len; omega
  · have hwn : HE .i32 ys (cutX x).vars := by rw [hys]; exact h0.p1.win hne
    have hm : min a.p.s1.l 70 = 0 := by omega
    have hx0 : (cutX x).vars = [] := List.eq_nil_of_length_eq_zero (by omega)
    have hy0 : ys = [] := List.eq_nil_of_length_eq_zero (by rw [hwn.len, hx0]; rfl)
    have hc0 : c' = [] := by rw [hc', hy0]; rfl
    have hV : Sli (Value.int .i32) 1 false 0 l' 0 c' (cutX x).vars := by
      rw [hc0, hl', hm, hx0]; exact .row .nil rfl (Nat.le_refl _) flatL_nil
    have hP : PH ⟨⟨false, 0, l', 0, c'⟩, ⟨a.p.s2.n, 0, min a.p.s2.l 10, b0.b2.k, b0.b2.c⟩, ⟨a.p.s3.n, 0, min a.p.s3.l 10, b0.b3.k, b0.b3.c⟩, a.p.r0, a.p.r1, a.p.r2, a.p.r3, a.p.r4⟩ (cutX x) := ⟨hV, h0.p2, h0.p3⟩
    have hl70 : l' ≤ 70 := by omega
    refine ⟨⟨⟨_, hP⟩, by omega, by omega, by omega⟩, ⟨hP.p1.flat, hP.p2.flat, hP.p3.flat⟩, fun b1 hb1 => ?_⟩
    have h1 := hb1 _ hP
    refine ⟨⟨⟨_, h1⟩, by omega⟩, ⟨h1.p1.flat, h1.p2.flat, h1.p3.flat⟩, fun o1 ho1 z16 e16 => ?_⟩
    have hs := ho1 _ h1.p3
    rw [wrap_i64] at e16
    have ez16 : a.n = z16 := by omega
    refine ⟨⟨⟨_, hP⟩, by show wthn z16 3 4 = 0; unfold wthn; rw [if_pos (by omega)], by omega, by omega, by omega⟩, ⟨⟨rfl, rfl⟩, hP.p1.flat, hP.p2.flat, hP.p3.flat⟩, fun b2 hb2 => ?_⟩
    have h2 := hb2 _ hP
    have hW : PH ⟨⟨false, 0, l', b1.b1.k, b1.b1.c⟩, ⟨a.p.s2.n, 0, min a.p.s2.l 10, b1.b2.k, b1.b2.c⟩, ⟨o1.n, 0, min a.p.s3.l 10, o1.k, o1.c⟩, a.p.r0, a.p.r1, a.p.r2, a.p.r3, a.p.r4⟩ (cutX x) := ⟨h1.p1, h1.p2, hs⟩
    have g1 := hW.p1.flat
    have g2 := hW.p2.flat
    have g3 := hW.p3.flat
    have g4 := h2.p1.flat
    have g5 := h2.p2.flat
    have g6 := h2.p3.flat
    have g7 := hP.p1.flat
    have g8 : (7 : Int) = Int.ofNat 3 + Int.ofNat 4 := rfl
    refine ⟨⟨0, false, l', 0, c', ⟨⟨false, 0, l', b1.b1.k, b1.b1.c⟩, ⟨a.p.s2.n, 0, min a.p.s2.l 10, b1.b2.k, b1.b2.c⟩, ⟨o1.n, 0, min a.p.s3.l 10, o1.k, o1.c⟩, a.p.r0, a.p.r1, a.p.r2, a.p.r3, a.p.r4⟩, ⟨⟨false, 0, l', b2.b1.k, b2.b1.c⟩, ⟨a.p.s2.n, 0, min a.p.s2.l 10, b2.b2.k, b2.b2.c⟩, ⟨a.p.s3.n, 0, min a.p.s3.l 10, b2.b3.k, b2.b3.c⟩, a.p.r0, a.p.r1, a.p.r2, a.p.r3, a.p.r4⟩, 7⟩, ⟨⟨by show (0 : Int) ≤ 0; decide, by show (0 : Int) ≤ _; omega⟩, ⟨hl70, hV.cap⟩, irOf hV, ⟨⟨cutX x, ⟨h2, pw _ rfl rfl rfl rfl rfl⟩, hW, pw _ rfl rfl rfl rfl rfl⟩, rfl, rfl, rfl, rfl, rfl, rfl, ⟨hl70, by show min a.p.s2.l 10 ≤ 10; omega, by show min a.p.s3.l 10 ≤ 10; omega⟩, ⟨hl70, by show min a.p.s2.l 10 ≤ 10; omega, by show min a.p.s3.l 10 ≤ 10; omega⟩⟩⟩, ?_, ?_⟩
    · repeat' first | with_reducible apply And.intro | exact trivial | exact rfl | assumption
    · have r1 := rest1 a hn
      simp only [eq_self, true_and, and_true] at r1
      exact r1
  · have hwn : HE .i32 ys (cutX x).vars := by rw [hys]; exact h0.p1.win hne
    have hcy : c' = ys := by rw [hc']; rfl
    have hV : Sli (Value.int .i32) 1 false 0 l' l' c' (cutX x).vars := by
      rw [hcy]; exact .row hwn (by omega) (Nat.le_refl _) hwn.flat
    have hP : PH ⟨⟨false, 0, l', l', c'⟩, ⟨a.p.s2.n, 0, min a.p.s2.l 10, b0.b2.k, b0.b2.c⟩, ⟨a.p.s3.n, 0, min a.p.s3.l 10, b0.b3.k, b0.b3.c⟩, a.p.r0, a.p.r1, a.p.r2, a.p.r3, a.p.r4⟩ (cutX x) := ⟨hV, h0.p2, h0.p3⟩
    have hl70 : l' ≤ 70 := by omega
    refine ⟨⟨⟨_, hP⟩, by omega, by omega, by omega⟩, ⟨hP.p1.flat, hP.p2.flat, hP.p3.flat⟩, fun b1 hb1 => ?_⟩
    have h1 := hb1 _ hP
    refine ⟨⟨⟨_, h1⟩, by omega⟩, ⟨h1.p1.flat, h1.p2.flat, h1.p3.flat⟩, fun o1 ho1 z16 e16 => ?_⟩
    have hs := ho1 _ h1.p3
    rw [wrap_i64] at e16
    have ez16 : a.n = z16 := by omega
    refine ⟨⟨⟨_, hP⟩, by show wthn z16 3 4 = 0; unfold wthn; rw [if_pos (by omega)], by omega, by omega, by omega⟩, ⟨⟨rfl, rfl⟩, hP.p1.flat, hP.p2.flat, hP.p3.flat⟩, fun b2 hb2 => ?_⟩
    have h2 := hb2 _ hP
    have hW : PH ⟨⟨false, 0, l', b1.b1.k, b1.b1.c⟩, ⟨a.p.s2.n, 0, min a.p.s2.l 10, b1.b2.k, b1.b2.c⟩, ⟨o1.n, 0, min a.p.s3.l 10, o1.k, o1.c⟩, a.p.r0, a.p.r1, a.p.r2, a.p.r3, a.p.r4⟩ (cutX x) := ⟨h1.p1, h1.p2, hs⟩
    have g1 := hW.p1.flat
    have g2 := hW.p2.flat
    have g3 := hW.p3.flat
    have g4 := h2.p1.flat
    have g5 := h2.p2.flat
    have g6 := h2.p3.flat
    have g7 := hP.p1.flat
    have g8 : (7 : Int) = Int.ofNat 3 + Int.ofNat 4 := rfl
    refine ⟨⟨0, false, l', l', c', ⟨⟨false, 0, l', b1.b1.k, b1.b1.c⟩, ⟨a.p.s2.n, 0, min a.p.s2.l 10, b1.b2.k, b1.b2.c⟩, ⟨o1.n, 0, min a.p.s3.l 10, o1.k, o1.c⟩, a.p.r0, a.p.r1, a.p.r2, a.p.r3, a.p.r4⟩, ⟨⟨false, 0, l', b2.b1.k, b2.b1.c⟩, ⟨a.p.s2.n, 0, min a.p.s2.l 10, b2.b2.k, b2.b2.c⟩, ⟨a.p.s3.n, 0, min a.p.s3.l 10, b2.b3.k, b2.b3.c⟩, a.p.r0, a.p.r1, a.p.r2, a.p.r3, a.p.r4⟩, 7⟩, ⟨⟨by show (0 : Int) ≤ 0; decide, by show (0 : Int) ≤ _; omega⟩, ⟨hl70, hV.cap⟩, irOf hV, ⟨⟨cutX x, ⟨h2, pw _ rfl rfl rfl rfl rfl⟩, hW, pw _ rfl rfl rfl rfl rfl⟩, rfl, rfl, rfl, rfl, rfl, rfl, ⟨hl70, by show min a.p.s2.l 10 ≤ 10; omega, by show min a.p.s3.l 10 ≤ 10; omega⟩, ⟨hl70, by show min a.p.s2.l 10 ≤ 10; omega, by show min a.p.s3.l 10 ≤ 10; omega⟩⟩⟩, ?_, ?_⟩
    · repeat' first | with_reducible apply And.intro | exact trivial | exact rfl | assumption
    · have r1 := rest1 a hn
      simp only [eq_self, true_and, and_true] at r1
      exact r1
end Go.Proofs.YthnjebcablpneaaGreatDoor
