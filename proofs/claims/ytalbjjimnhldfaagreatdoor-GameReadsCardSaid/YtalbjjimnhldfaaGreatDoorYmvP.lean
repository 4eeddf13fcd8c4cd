/- Moves: what is told of their bytes, and of what is read, is so. -/
import Derived.Test.YtalbjjimnhldfaaGreatDoorYmv
set_option maxRecDepth 100000
namespace Go.Proofs.YtalbjjimnhldfaaGreatDoor
open Go.Ev
noncomputable section
def W_G_encM_0 : MA → Option AO := fun (a : MA) => Option.some (AO.row (Array.toList (Array.mk [Value.iface (1000000007 : Nat) (Value.bool a.1), Value.iface (1000000009 : Nat) (Value.agg (Array.mk [Value.bool a.2.1,
Value.slice (Option.some (Addr.mk (12 : Nat) a.2.2 Option.none)) a.2.3 a.2.4])), Value.iface (1000000007 : Nat) (Value.int IntKind.u8 a.3.1), Value.iface (1000000007 : Nat)
(Value.int IntKind.u8 a.3.2), Value.iface (1000000007 : Nat) (Value.int IntKind.u8 a.3.3), Value.iface (1000000007 : Nat) (Value.int IntKind.u8 a.3.4), Value.iface (1000000007 :
Nat) (Value.int IntKind.u8 a.3.5), Value.iface (1000000007 : Nat) (Value.int IntKind.u8 a.3.6), Value.iface (1000000007 : Nat) (Value.int IntKind.u8 a.3.7), Value.iface (1000000007
: Nat) (Value.int IntKind.u8 a.3.8)])) (43 : Nat) Md.own)
def W_G_encM_1 : MA → Option AO := fun (a : MA) => Option.some (AO.row a.2.5 (21 : Nat) Md.gro)

def W_G_sameM_0 : List UInt8 → Nat → Option UInt8 := fun (x6 : List UInt8) (x7 : Nat) => x6[x7]?
def W_G_sameM_1 : UInt8 → Option UInt8 := fun (x8 : UInt8) => Option.some x8
def W_G_sameM_2 : M2 → Option AO := fun (a : M2) => Option.some (AO.row (Array.toList (Array.mk [Value.iface (1000000007 : Nat) (Value.bool a.2.1), Value.iface (1000000009 : Nat) (Value.agg (Array.mk [Value.bool
a.2.2.1, Value.slice (Option.some (Addr.mk (13 : Nat) a.2.2.2 Option.none)) a.2.2.3 a.2.2.4])), Value.iface (1000000007 : Nat) (Value.int IntKind.u8 a.2.3.1), Value.iface
(1000000007 : Nat) (Value.int IntKind.u8 a.2.3.2), Value.iface (1000000007 : Nat) (Value.int IntKind.u8 a.2.3.3), Value.iface (1000000007 : Nat) (Value.int IntKind.u8 a.2.3.4),
Value.iface (1000000007 : Nat) (Value.int IntKind.u8 a.2.3.5), Value.iface (1000000007 : Nat) (Value.int IntKind.u8 a.2.3.6), Value.iface (1000000007 : Nat) (Value.int IntKind.u8
a.2.3.7), Value.iface (1000000007 : Nat) (Value.int IntKind.u8 a.2.3.8)])) (43 : Nat) Md.own)
end
theorem vc_word1 (a : RA) : G_word1 a = ((True ∧ (∃ (x0 : List Int), RI (RA.mk (SA.mk a.1.1 a.1.2 a.1.3 a.1.4 a.1.5) a.2 a.3 (18446744073709551615 : Int)) x0) ∧ a.1.3 ≤ (1000000 : Nat)) ∧ ((((a.1.1 = a.1.1 ∧ a.1.2 = a.1.2
∧ a.1.3 = a.1.3 ∧ a.1.4 = a.1.4) ∧ a.2 = a.2 ∧ a.3 = a.3 ∧ True) ∧ Int.ofNat (18446744073709551615 : Nat) = (18446744073709551615 : Int) ∧ True) ∧ (True ∧ FlatL a.1.5 ∧ a.1.5 =
a.1.5) ∧ True) ∧ (∀ (x1 : RR), (∀ (x2 : List Int), RI (RA.mk (SA.mk a.1.1 a.1.2 a.1.3 a.1.4 a.1.5) a.2 a.3 (18446744073709551615 : Int)) x2 → x1 = rdC x2 a.2 a.3 (Int.ofNat
(18446744073709551615 : Nat))) → (True ∧ ((0 : Int) ≤ x1.3 ∧ x1.3 < (18446744073709551616 : Int)) ∧ True) ∧ ((x1.3 = x1.3 ∧ True) ∧ True) ∧ (∀ (x3 : Unit), True → (x1.2 = (0 : Int)
→ (unfI x1.3 < (-2147483648 : Int) → ∃ (x4 : WR), (∀ (x5 : List Int), RI a x5 → x4 = wdC x5 a.2 a.3) ∧ (((a.1.1 = a.1.1 ∧ a.1.2 = a.1.2 ∧ a.1.3 = a.1.3 ∧ a.1.4 = a.1.4) ∧ x4.1 =
a.2 ∧ x4.2 = (2 : Int) ∧ True) ∧ x4.3 = (0 : Int) ∧ True) ∧ True) ∧ (¬unfI x1.3 < (-2147483648 : Int) → ((2147483647 : Int) < unfI x1.3 → ∃ (x6 : WR), (∀ (x7 : List Int), RI a x7 →
x6 = wdC x7 a.2 a.3) ∧ (((a.1.1 = a.1.1 ∧ a.1.2 = a.1.2 ∧ a.1.3 = a.1.3 ∧ a.1.4 = a.1.4) ∧ x6.1 = a.2 ∧ x6.2 = (2 : Int) ∧ True) ∧ x6.3 = (0 : Int) ∧ True) ∧ True) ∧ (¬(2147483647
: Int) < unfI x1.3 → ∀ (x8 : Int), x8 = IntKind.wrap IntKind.i32 (unfI x1.3) → ∃ (x9 : WR), (∀ (x10 : List Int), RI a x10 → x9 = wdC x10 a.2 a.3) ∧ (((a.1.1 = a.1.1 ∧ a.1.2 = a.1.2
∧ a.1.3 = a.1.3 ∧ a.1.4 = a.1.4) ∧ x9.1 = x1.1 ∧ x9.2 = x1.2 ∧ True) ∧ x9.3 = x8 ∧ True) ∧ True))) ∧ (¬x1.2 = (0 : Int) → ∀ (x11 : Int), x11 = IntKind.wrap IntKind.i32 (unfI x1.3)
→ ∃ (x12 : WR), (∀ (x13 : List Int), RI a x13 → x12 = wdC x13 a.2 a.3) ∧ (((a.1.1 = a.1.1 ∧ a.1.2 = a.1.2 ∧ a.1.3 = a.1.3 ∧ a.1.4 = a.1.4) ∧ x12.1 = x1.1 ∧ x12.2 = x1.2 ∧ True) ∧
x12.3 = x11 ∧ True) ∧ True)) ∧ True) ∧ True) := by kernel_rfl
theorem vc_words (a : RA) (xs : List Int) : G_words a xs = ((True ∧ (∃ (x0 : List Int), RI (RA.mk (SA.mk Bool.false (0 : Nat) a.1.3 a.1.4 a.1.5) a.2 a.3 a.4) x0) ∧ (Bool.false = Bool.false ∧ nat_lit 0 = (0 : Nat)) ∧ a.1.3 ≤ (1000000 : Nat))
∧ (((0 : Nat) = (0 : Nat) ∧ a.4 = a.4 ∧ True) ∧ (True ∧ ((0 : Nat) = (0 : Nat) ∧ a.1.3 = a.1.3 ∧ a.1.4 = a.1.4) ∧ a.2 = a.2 ∧ a.3 = a.3 ∧ True) ∧ (True ∧ FlatL a.1.5 ∧ a.1.5 =
a.1.5) ∧ True) ∧ (∀ (x1 : RR), (∀ (x2 : List Int), RI (RA.mk (SA.mk Bool.false (0 : Nat) a.1.3 a.1.4 a.1.5) a.2 a.3 a.4) x2 → x1 = rdC x2 a.2 a.3 a.4) → ∃ (x3 : WL), ((((0 : Int) ≤
x3.4 ∧ x3.4 ≤ x3.3) ∧ x3.3 = (rdC xs a.2 a.3 a.4).3 ∧ (0 : Int) ≤ x3.1 ∧ x3.1 ≤ (↑a.1.3 : Int)) ∧ ∃ (x4 : List Int), LC x3.5 x4 ∧ (↑(List.length x4) : Int) = x3.4 ∧ (x3.2 = (0 :
Int) → wsC xs (Int.toNat (rdC xs a.2 a.3 a.4).3) (rdC xs a.2 a.3 a.4).1 (rdC xs a.2 a.3 a.4).2 = LW.mk (wsC xs (Int.toNat (x3.3 - x3.4)) x3.1 (0 : Int)).1 (wsC xs (Int.toNat (x3.3
- x3.4)) x3.1 (0 : Int)).2 (x4 ++ (wsC xs (Int.toNat (x3.3 - x3.4)) x3.1 (0 : Int)).3)) ∧ (x3.2 ≠ (0 : Int) → (wsC xs (Int.toNat (rdC xs a.2 a.3 a.4).3) (rdC xs a.2 a.3 a.4).1 (rdC
xs a.2 a.3 a.4).2).2 = x3.2)) ∧ (((0 : Nat) = (0 : Nat) ∧ (x3.5.1 = Bool.true ∧ x3.5.2 = (0 : Nat) ∧ x3.5.3 = (0 : Nat)) ∧ x3.3 = x1.3 ∧ x3.4 = (0 : Int) ∧ True) ∧ ((True ∧ ((0 :
Nat) = (0 : Nat) ∧ a.1.3 = a.1.3 ∧ a.1.4 = a.1.4) ∧ x3.1 = x1.1 ∧ x3.2 = x1.2 ∧ True) ∧ (True ∧ FlatL a.1.5 ∧ a.1.5 = a.1.5) ∧ (FlatL x3.5.4 ∧ True) ∧ True) ∧ True) ∧ ∀ (x5 : WL),
((((0 : Int) ≤ x5.4 ∧ x5.4 ≤ x5.3) ∧ x5.3 = (rdC xs a.2 a.3 a.4).3 ∧ (0 : Int) ≤ x5.1 ∧ x5.1 ≤ (↑a.1.3 : Int)) ∧ ∃ (x6 : List Int), LC x5.5 x6 ∧ (↑(List.length x6) : Int) = x5.4 ∧
(x5.2 = (0 : Int) → wsC xs (Int.toNat (rdC xs a.2 a.3 a.4).3) (rdC xs a.2 a.3 a.4).1 (rdC xs a.2 a.3 a.4).2 = LW.mk (wsC xs (Int.toNat (x5.3 - x5.4)) x5.1 (0 : Int)).1 (wsC xs
(Int.toNat (x5.3 - x5.4)) x5.1 (0 : Int)).2 (x6 ++ (wsC xs (Int.toNat (x5.3 - x5.4)) x5.1 (0 : Int)).3)) ∧ (x5.2 ≠ (0 : Int) → (wsC xs (Int.toNat (rdC xs a.2 a.3 a.4).3) (rdC xs
a.2 a.3 a.4).1 (rdC xs a.2 a.3 a.4).2).2 = x5.2)) → (x5.4 < x5.3 → (True ∧ (∃ (x7 : List Int), RI (RA.mk (SA.mk Bool.false (0 : Nat) a.1.3 a.1.4 a.1.5) x5.1 x5.2
(18446744073709551615 : Int)) x7) ∧ (Bool.false = Bool.false ∧ nat_lit 0 = (0 : Nat) ∧ Int.ofNat (18446744073709551615 : Nat) = (18446744073709551615 : Int)) ∧ a.1.3 ≤ (1000000 :
Nat)) ∧ (((0 : Nat) = (0 : Nat) ∧ True) ∧ (True ∧ ((0 : Nat) = (0 : Nat) ∧ a.1.3 = a.1.3 ∧ a.1.4 = a.1.4) ∧ x5.1 = x5.1 ∧ x5.2 = x5.2 ∧ True) ∧ (True ∧ FlatL a.1.5 ∧ a.1.5 = a.1.5)
∧ True) ∧ (∀ (x8 : RR), (∀ (x9 : List Int), RI (RA.mk (SA.mk Bool.false (0 : Nat) a.1.3 a.1.4 a.1.5) x5.1 x5.2 (18446744073709551615 : Int)) x9 → x8 = rdC x9 x5.1 x5.2 (Int.ofNat
(18446744073709551615 : Nat))) → (unfI x8.3 < (-2147483648 : Int) → ∃ (x10 : WS), (∀ (x11 : List Int), RI a x11 → x10.3 = (wsC x11 (Int.toNat (rdC x11 a.2 a.3 a.4).3) (rdC x11 a.2
a.3 a.4).1 (rdC x11 a.2 a.3 a.4).2).2 ∧ (x10.3 = (0 : Int) → x10.2 = (0 : Int) ∧ x10.1 = (wsC x11 (Int.toNat (rdC x11 a.2 a.3 a.4).3) (rdC x11 a.2 a.3 a.4).1 (rdC x11 a.2 a.3
a.4).2).1 ∧ LC x10.4 (wsC x11 (Int.toNat (rdC x11 a.2 a.3 a.4).3) (rdC x11 a.2 a.3 a.4).1 (rdC x11 a.2 a.3 a.4).2).3)) ∧ ((x10.4.1 = Bool.true ∧ x10.4.2 = (0 : Nat) ∧ x10.4.3 = (0
: Nat)) ∧ x10.3 = (2 : Int) ∧ True) ∧ (True ∧ ((0 : Nat) = (0 : Nat) ∧ a.1.3 = a.1.3 ∧ a.1.4 = a.1.4) ∧ x10.1 = x8.1 ∧ x10.2 = x8.2 ∧ True) ∧ (True ∧ FlatL a.1.5 ∧ a.1.5 = a.1.5) ∧
(FlatL x10.4.4 ∧ True) ∧ True) ∧ (¬unfI x8.3 < (-2147483648 : Int) → ((2147483647 : Int) < unfI x8.3 → ∃ (x12 : WS), (∀ (x13 : List Int), RI a x13 → x12.3 = (wsC x13 (Int.toNat
(rdC x13 a.2 a.3 a.4).3) (rdC x13 a.2 a.3 a.4).1 (rdC x13 a.2 a.3 a.4).2).2 ∧ (x12.3 = (0 : Int) → x12.2 = (0 : Int) ∧ x12.1 = (wsC x13 (Int.toNat (rdC x13 a.2 a.3 a.4).3) (rdC x13
a.2 a.3 a.4).1 (rdC x13 a.2 a.3 a.4).2).1 ∧ LC x12.4 (wsC x13 (Int.toNat (rdC x13 a.2 a.3 a.4).3) (rdC x13 a.2 a.3 a.4).1 (rdC x13 a.2 a.3 a.4).2).3)) ∧ ((x12.4.1 = Bool.true ∧
x12.4.2 = (0 : Nat) ∧ x12.4.3 = (0 : Nat)) ∧ x12.3 = (2 : Int) ∧ True) ∧ (True ∧ ((0 : Nat) = (0 : Nat) ∧ a.1.3 = a.1.3 ∧ a.1.4 = a.1.4) ∧ x12.1 = x8.1 ∧ x12.2 = x8.2 ∧ True) ∧
(True ∧ FlatL a.1.5 ∧ a.1.5 = a.1.5) ∧ (FlatL x12.4.4 ∧ True) ∧ True) ∧ (¬(2147483647 : Int) < unfI x8.3 → ∀ (x14 : Int), x14 = IntKind.wrap IntKind.i32 (unfI x8.3) → (x5.5.1 =
Bool.true → (1 : Nat) ≤ List.length [Value.iface (1000000007 : Nat) (Value.int IntKind.i32 x14)] ∧ ∀ (x15 : List Value), x15 = lwin [Value.iface (1000000007 : Nat) (Value.int
IntKind.i32 x14)] (0 : Nat) (1 : Nat) → ((1 : Nat) = (0 : Nat) → ∀ (x16 : Int), x16 = IntKind.wrap IntKind.u64 (x5.4 + (1 : Int)) → ∃ (x17 : WL), ((((0 : Int) ≤ x17.4 ∧ x17.4 ≤
x17.3) ∧ x17.3 = (rdC xs a.2 a.3 a.4).3 ∧ (0 : Int) ≤ x17.1 ∧ x17.1 ≤ (↑a.1.3 : Int)) ∧ ∃ (x18 : List Int), LC x17.5 x18 ∧ (↑(List.length x18) : Int) = x17.4 ∧ (x17.2 = (0 : Int) →
wsC xs (Int.toNat (rdC xs a.2 a.3 a.4).3) (rdC xs a.2 a.3 a.4).1 (rdC xs a.2 a.3 a.4).2 = LW.mk (wsC xs (Int.toNat (x17.3 - x17.4)) x17.1 (0 : Int)).1 (wsC xs (Int.toNat (x17.3 -
x17.4)) x17.1 (0 : Int)).2 (x18 ++ (wsC xs (Int.toNat (x17.3 - x17.4)) x17.1 (0 : Int)).3)) ∧ (x17.2 ≠ (0 : Int) → (wsC xs (Int.toNat (rdC xs a.2 a.3 a.4).3) (rdC xs a.2 a.3 a.4).1
(rdC xs a.2 a.3 a.4).2).2 = x17.2)) ∧ Int.toNat (x17.3 - x17.4) < Int.toNat (x5.3 - x5.4) ∧ ((0 : Nat) = (0 : Nat) ∧ (x17.5.1 = Bool.true ∧ x17.5.2 = (0 : Nat) ∧ x17.5.3 = (0 :
Nat)) ∧ x17.3 = x5.3 ∧ x17.4 = x16 ∧ True) ∧ ((True ∧ ((0 : Nat) = (0 : Nat) ∧ a.1.3 = a.1.3 ∧ a.1.4 = a.1.4) ∧ x17.1 = x8.1 ∧ x17.2 = x8.2 ∧ True) ∧ (True ∧ FlatL a.1.5 ∧ a.1.5 =
a.1.5) ∧ (FlatL x17.5.4 ∧ True) ∧ True) ∧ True) ∧ ((1 : Nat) ≠ (0 : Nat) → Few (1 : Nat) (4 : Nat) ∧ ∀ (x19 : Int), x19 = IntKind.wrap IntKind.u64 (x5.4 + (1 : Int)) → ∃ (x20 :
WL), ((((0 : Int) ≤ x20.4 ∧ x20.4 ≤ x20.3) ∧ x20.3 = (rdC xs a.2 a.3 a.4).3 ∧ (0 : Int) ≤ x20.1 ∧ x20.1 ≤ (↑a.1.3 : Int)) ∧ ∃ (x21 : List Int), LC x20.5 x21 ∧ (↑(List.length x21) :
Int) = x20.4 ∧ (x20.2 = (0 : Int) → wsC xs (Int.toNat (rdC xs a.2 a.3 a.4).3) (rdC xs a.2 a.3 a.4).1 (rdC xs a.2 a.3 a.4).2 = LW.mk (wsC xs (Int.toNat (x20.3 - x20.4)) x20.1 (0 :
Int)).1 (wsC xs (Int.toNat (x20.3 - x20.4)) x20.1 (0 : Int)).2 (x21 ++ (wsC xs (Int.toNat (x20.3 - x20.4)) x20.1 (0 : Int)).3)) ∧ (x20.2 ≠ (0 : Int) → (wsC xs (Int.toNat (rdC xs
a.2 a.3 a.4).3) (rdC xs a.2 a.3 a.4).1 (rdC xs a.2 a.3 a.4).2).2 = x20.2)) ∧ Int.toNat (x20.3 - x20.4) < Int.toNat (x5.3 - x5.4) ∧ ((0 : Nat) = (0 : Nat) ∧ (x20.5.1 = Bool.false ∧
(0 : Nat) = (0 : Nat) ∧ x20.5.2 = (1 : Nat) ∧ x20.5.3 = (1 : Nat)) ∧ x20.3 = x5.3 ∧ x20.4 = x19 ∧ True) ∧ ((True ∧ ((0 : Nat) = (0 : Nat) ∧ a.1.3 = a.1.3 ∧ a.1.4 = a.1.4) ∧ x20.1 =
x8.1 ∧ x20.2 = x8.2 ∧ True) ∧ (True ∧ FlatL a.1.5 ∧ a.1.5 = a.1.5) ∧ (x20.5.3 = (1 : Nat) ∧ FlatL x20.5.4 ∧ x20.5.4 = x15) ∧ True) ∧ True)) ∧ (x5.5.1 = Bool.false → (1 : Nat) ≤
List.length [Value.iface (1000000007 : Nat) (Value.int IntKind.i32 x14)] ∧ ∀ (x22 : List Value), x22 = lwin [Value.iface (1000000007 : Nat) (Value.int IntKind.i32 x14)] (0 : Nat)
(1 : Nat) → ((0 : Nat) = (0 : Nat) ∧ List.length x5.5.4 = x5.5.2 * (1 : Nat) ∧ x5.5.3 = x5.5.3 ∧ x5.5.2 ≤ x5.5.3 ∧ Few (x5.5.2 + (1 : Nat)) (4 : Nat) ∧ lall oneK x22 = Bool.true) ∧
∀ (x23 x24 : Nat), x23 = x5.5.2 + (1 : Nat) → (x24 = if x23 ≤ SN.k (WL.s x5) then x5.5.3 else x23) → ∀ (x25 : Int), x25 = IntKind.wrap IntKind.u64 (x5.4 + (1 : Int)) → ∃ (x26 :
WL), ((((0 : Int) ≤ x26.4 ∧ x26.4 ≤ x26.3) ∧ x26.3 = (rdC xs a.2 a.3 a.4).3 ∧ (0 : Int) ≤ x26.1 ∧ x26.1 ≤ (↑a.1.3 : Int)) ∧ ∃ (x27 : List Int), LC x26.5 x27 ∧ (↑(List.length x27) :
Int) = x26.4 ∧ (x26.2 = (0 : Int) → wsC xs (Int.toNat (rdC xs a.2 a.3 a.4).3) (rdC xs a.2 a.3 a.4).1 (rdC xs a.2 a.3 a.4).2 = LW.mk (wsC xs (Int.toNat (x26.3 - x26.4)) x26.1 (0 :
Int)).1 (wsC xs (Int.toNat (x26.3 - x26.4)) x26.1 (0 : Int)).2 (x27 ++ (wsC xs (Int.toNat (x26.3 - x26.4)) x26.1 (0 : Int)).3)) ∧ (x26.2 ≠ (0 : Int) → (wsC xs (Int.toNat (rdC xs
a.2 a.3 a.4).3) (rdC xs a.2 a.3 a.4).1 (rdC xs a.2 a.3 a.4).2).2 = x26.2)) ∧ Int.toNat (x26.3 - x26.4) < Int.toNat (x5.3 - x5.4) ∧ ((0 : Nat) = (0 : Nat) ∧ (x26.5.1 = Bool.false ∧
(0 : Nat) = (0 : Nat) ∧ x26.5.2 = x23 ∧ x26.5.3 = x24) ∧ x26.3 = x5.3 ∧ x26.4 = x25 ∧ True) ∧ ((True ∧ ((0 : Nat) = (0 : Nat) ∧ a.1.3 = a.1.3 ∧ a.1.4 = a.1.4) ∧ x26.1 = x8.1 ∧
x26.2 = x8.2 ∧ True) ∧ (True ∧ FlatL a.1.5 ∧ a.1.5 = a.1.5) ∧ (x26.5.3 = x24 ∧ FlatL x26.5.4 ∧ x26.5.4 = x5.5.4 ++ x22) ∧ True) ∧ True)))) ∧ True) ∧ (¬x5.4 < x5.3 → ∃ (x28 : WS),
(∀ (x29 : List Int), RI a x29 → x28.3 = (wsC x29 (Int.toNat (rdC x29 a.2 a.3 a.4).3) (rdC x29 a.2 a.3 a.4).1 (rdC x29 a.2 a.3 a.4).2).2 ∧ (x28.3 = (0 : Int) → x28.2 = (0 : Int) ∧
x28.1 = (wsC x29 (Int.toNat (rdC x29 a.2 a.3 a.4).3) (rdC x29 a.2 a.3 a.4).1 (rdC x29 a.2 a.3 a.4).2).1 ∧ LC x28.4 (wsC x29 (Int.toNat (rdC x29 a.2 a.3 a.4).3) (rdC x29 a.2 a.3
a.4).1 (rdC x29 a.2 a.3 a.4).2).3)) ∧ ((x28.4.1 = x5.5.1 ∧ (0 : Nat) = (0 : Nat) ∧ x28.4.2 = x5.5.2 ∧ x28.4.3 = x5.5.3) ∧ x28.3 = x5.2 ∧ True) ∧ (True ∧ ((0 : Nat) = (0 : Nat) ∧
a.1.3 = a.1.3 ∧ a.1.4 = a.1.4) ∧ x28.1 = x5.1 ∧ x28.2 = x5.2 ∧ True) ∧ (True ∧ FlatL a.1.5 ∧ a.1.5 = a.1.5) ∧ (x28.4.3 = x5.5.3 ∧ FlatL x28.4.4 ∧ x28.4.4 = x5.5.4) ∧ True)) ∧ True) := by kernel_rfl
theorem vc_encM (a : MA) (xs : List Int) : G_encM a xs = ((a.1 = Bool.true → (True ∧ (∃ (x0 : List Int), Sli (Value.int IntKind.u8) (1 : Nat) Bool.true (0 : Nat) (0 : Nat) (0 : Nat) [] x0) ∧ (0 : Nat) ≤ (900000 : Nat) ∧ (0 : Int) ≤ (1 :
Int) ∧ (1 : Int) < (18446744073709551616 : Int)) ∧ (((Bool.true = Bool.true ∧ (0 : Nat) = (0 : Nat) ∧ (0 : Nat) = (0 : Nat)) ∧ (1 : Int) = (1 : Int) ∧ True) ∧ (FlatL [] ∧ True) ∧
True) ∧ (∀ (x1 : OW), (x1.2 = (10 : Nat) ∧ ∀ (x2 : List Int), Sli (Value.int IntKind.u8) (1 : Nat) Bool.true (0 : Nat) (0 : Nat) (0 : Nat) [] x2 → OwB x1 (x2 ++ num (1 : Nat))) →
(True ∧ D8.Ok (D8.mk a.3.1 a.3.2 a.3.3 a.3.4 a.3.5 a.3.6 a.3.7 a.3.8) ∧ True) ∧ (((a.3.1 = a.3.1 ∧ a.3.2 = a.3.2 ∧ a.3.3 = a.3.3 ∧ a.3.4 = a.3.4 ∧ a.3.5 = a.3.5 ∧ a.3.6 = a.3.6 ∧
a.3.7 = a.3.7 ∧ a.3.8 = a.3.8 ∧ True) ∧ True) ∧ True) ∧ (∀ (x3 : Unit), True → (True ∧ (∃ (x4 : List Int), Sli (Value.int IntKind.u8) (1 : Nat) Bool.false (nat_lit 0) x1.1 x1.2
x1.3 x4) ∧ x1.1 ≤ (900000 : Nat) ∧ (0 : Int) ≤ dnum [a.3.1, a.3.2, a.3.3, a.3.4, a.3.5, a.3.6, a.3.7, a.3.8] ∧ dnum [a.3.1, a.3.2, a.3.3, a.3.4, a.3.5, a.3.6, a.3.7, a.3.8] <
(18446744073709551616 : Int)) ∧ (((Bool.false = Bool.false ∧ nat_lit 0 = (0 : Nat) ∧ x1.1 = x1.1 ∧ x1.2 = x1.2) ∧ dnum [a.3.1, a.3.2, a.3.3, a.3.4, a.3.5, a.3.6, a.3.7, a.3.8] =
dnum [a.3.1, a.3.2, a.3.3, a.3.4, a.3.5, a.3.6, a.3.7, a.3.8] ∧ True) ∧ (True ∧ FlatL x1.3 ∧ x1.3 = x1.3) ∧ True) ∧ (∀ (x5 : OW), (x5.2 = x1.1 + (10 : Nat) ∧ ∀ (x6 : List Int), Sli
(Value.int IntKind.u8) (1 : Nat) Bool.false (nat_lit 0) x1.1 x1.2 x1.3 x6 → OwB x5 (x6 ++ num (Int.toNat (dnum [a.3.1, a.3.2, a.3.3, a.3.4, a.3.5, a.3.6, a.3.7, a.3.8])))) → (True
∧ (True ∧ True) ∧ (W_G_encM_0 a = W_G_encM_0 a ∧ True) ∧ True ∧ True ∧ True ∧ True) ∧ ∃ (x7 : OW), (x7.2 ≤ (3000 : Nat) ∧ ∀ (x8 : List Int), MH a x8 → OwB x7 (encM a.1 x8 a.3)) ∧
((0 : Nat) = (0 : Nat) ∧ x7.1 = x5.1 ∧ x7.2 = x5.2) ∧ (True ∧ FlatL x7.3 ∧ x7.3 = x5.3) ∧ True) ∧ True) ∧ True) ∧ True) ∧ (a.1 = Bool.false → (True ∧ (∃ (x9 : List Int), Sli
(Value.int IntKind.u8) (1 : Nat) Bool.true (0 : Nat) (0 : Nat) (0 : Nat) [] x9) ∧ (0 : Nat) ≤ (900000 : Nat) ∧ (0 : Int) ≤ (0 : Int) ∧ (0 : Int) < (18446744073709551616 : Int)) ∧
(((Bool.true = Bool.true ∧ (0 : Nat) = (0 : Nat) ∧ (0 : Nat) = (0 : Nat)) ∧ (0 : Int) = (0 : Int) ∧ True) ∧ (FlatL [] ∧ True) ∧ True) ∧ (∀ (x10 : OW), (x10.2 = (10 : Nat) ∧ ∀ (x11
: List Int), Sli (Value.int IntKind.u8) (1 : Nat) Bool.true (0 : Nat) (0 : Nat) (0 : Nat) [] x11 → OwB x10 (x11 ++ num (0 : Nat))) → ∀ (x12 : Int), x12 = (↑a.2.3 : Int) → ∀ (x13 :
Int), x13 = IntKind.wrap IntKind.u64 x12 → (True ∧ (∃ (x14 : List Int), Sli (Value.int IntKind.u8) (1 : Nat) Bool.false (nat_lit 0) x10.1 x10.2 x10.3 x14) ∧ x10.1 ≤ (900000 : Nat)
∧ (0 : Int) ≤ x13 ∧ x13 < (18446744073709551616 : Int)) ∧ (((Bool.false = Bool.false ∧ nat_lit 0 = (0 : Nat) ∧ x10.1 = x10.1 ∧ x10.2 = x10.2) ∧ x13 = x13 ∧ True) ∧ (True ∧ FlatL
x10.3 ∧ x10.3 = x10.3) ∧ True) ∧ (∀ (x15 : OW), (x15.2 = x10.1 + (10 : Nat) ∧ ∀ (x16 : List Int), Sli (Value.int IntKind.u8) (1 : Nat) Bool.false (nat_lit 0) x10.1 x10.2 x10.3 x16
→ OwB x15 (x16 ++ num (Int.toNat x13))) → (True ∧ (True ∧ True) ∧ (W_G_encM_0 a = W_G_encM_0 a ∧ True) ∧ (W_G_encM_1 a = W_G_encM_1 a ∧ True) ∧ (True ∧ True) ∧ True ∧ True ∧ True)
∧ ∀ (x17 : Int), x17 = (↑a.2.3 : Int) → ∃ (x18 : EM), (((0 : Int) ≤ x18.1 ∧ x18.1 ≤ (↑a.2.3 : Int)) ∧ OwB x18.2 (encMk xs (Int.toNat x18.1)) ∧ (↑x18.2.1 : Int) ≤ (20 : Int) + (10 :
Int) * x18.1 ∧ (↑x18.2.2 : Int) ≤ (30 : Int) + (10 : Int) * x18.1) ∧ ((((0 : Nat) = (0 : Nat) ∧ x18.2.1 = x15.1 ∧ x18.2.2 = x15.2) ∧ (a.2.1 = a.2.1 ∧ a.2.2 = a.2.2 ∧ a.2.3 = a.2.3
∧ a.2.4 = a.2.4) ∧ (↑a.2.3 : Int) = x17 ∧ x18.1 = (0 : Int) ∧ True) ∧ ((True ∧ FlatL x18.2.3 ∧ x18.2.3 = x15.3) ∧ (True ∧ FlatL a.2.5 ∧ a.2.5 = a.2.5) ∧ True) ∧ True) ∧ ∀ (x19 :
EM), ((0 : Int) ≤ x19.1 ∧ x19.1 ≤ (↑a.2.3 : Int)) ∧ OwB x19.2 (encMk xs (Int.toNat x19.1)) ∧ (↑x19.2.1 : Int) ≤ (20 : Int) + (10 : Int) * x19.1 ∧ (↑x19.2.2 : Int) ≤ (30 : Int) +
(10 : Int) * x19.1 → (x19.1 < (↑a.2.3 : Int) → ((0 : Int) ≤ x19.1 ∧ x19.1 < (↑a.2.3 : Int)) ∧ ∀ (x20 : Nat), x20 = a.2.2 + Int.toNat x19.1 * (1 : Nat) → ∃ (x21 : Int), Rd a.2.5
(Nat.add x20 (0 : Nat)) (Value.int IntKind.i32 x21) ∧ ∀ (x22 : Int), x22 = IntKind.wrap IntKind.i64 x21 → (True ∧ (∃ (x23 : List Int), Sli (Value.int IntKind.u8) (1 : Nat)
Bool.false (nat_lit 0) x19.2.1 x19.2.2 x19.2.3 x23) ∧ x19.2.1 ≤ (900000 : Nat) ∧ (-9223372036854775808 : Int) ≤ x22 ∧ x22 ≤ (9223372036854775807 : Int)) ∧ (((Bool.false =
Bool.false ∧ nat_lit 0 = (0 : Nat) ∧ x19.2.1 = x19.2.1 ∧ x19.2.2 = x19.2.2) ∧ x22 = x22 ∧ True) ∧ (True ∧ FlatL x19.2.3 ∧ x19.2.3 = x19.2.3) ∧ True) ∧ (∀ (x24 : OW), (x24.2 =
x19.2.1 + (10 : Nat) ∧ ∀ (x25 : List Int), Sli (Value.int IntKind.u8) (1 : Nat) Bool.false (nat_lit 0) x19.2.1 x19.2.2 x19.2.3 x25 → OwB x24 (x25 ++ num (Int.toNat (foldI x22)))) →
∀ (x26 : Int), x26 = IntKind.wrap IntKind.i64 (x19.1 + (1 : Int)) → ∃ (x27 : EM), (((0 : Int) ≤ x27.1 ∧ x27.1 ≤ (↑a.2.3 : Int)) ∧ OwB x27.2 (encMk xs (Int.toNat x27.1)) ∧ (↑x27.2.1
: Int) ≤ (20 : Int) + (10 : Int) * x27.1 ∧ (↑x27.2.2 : Int) ≤ (30 : Int) + (10 : Int) * x27.1) ∧ Int.toNat ((↑a.2.3 : Int) - x27.1) < Int.toNat ((↑a.2.3 : Int) - x19.1) ∧ (((0 :
Nat) = (0 : Nat) ∧ x27.2.1 = x24.1 ∧ x27.2.2 = x24.2) ∧ (a.2.1 = a.2.1 ∧ a.2.2 = a.2.2 ∧ a.2.3 = a.2.3 ∧ a.2.4 = a.2.4) ∧ (↑a.2.3 : Int) = (↑a.2.3 : Int) ∧ x27.1 = x26 ∧ True) ∧
((True ∧ FlatL x27.2.3 ∧ x27.2.3 = x24.3) ∧ (True ∧ FlatL a.2.5 ∧ a.2.5 = a.2.5) ∧ True) ∧ True) ∧ True) ∧ (¬x19.1 < (↑a.2.3 : Int) → ∃ (x28 : OW), (x28.2 ≤ (3000 : Nat) ∧ ∀ (x29 :
List Int), MH a x29 → OwB x28 (encM a.1 x29 a.3)) ∧ ((0 : Nat) = (0 : Nat) ∧ x28.1 = x19.2.1 ∧ x28.2 = x19.2.2) ∧ (True ∧ FlatL x28.3 ∧ x28.3 = x19.2.3) ∧ True)) ∧ True) ∧ True)) := by kernel_rfl
theorem vc_encM2 (a : MA) (xs : List Int) : G_encM2 a xs = ((a.1 = Bool.true → (True ∧ True) ∧ (((a.3.1 = a.3.1 ∧ a.3.2 = a.3.2 ∧ a.3.3 = a.3.3 ∧ a.3.4 = a.3.4 ∧ a.3.5 = a.3.5 ∧ a.3.6 = a.3.6 ∧ a.3.7 = a.3.7 ∧ a.3.8 = a.3.8 ∧ True) ∧ True)
∧ True) ∧ (∀ (x0 : Unit), True → (True ∧ ((0 : Int) ≤ dnum [a.3.1, a.3.2, a.3.3, a.3.4, a.3.5, a.3.6, a.3.7, a.3.8] ∧ dnum [a.3.1, a.3.2, a.3.3, a.3.4, a.3.5, a.3.6, a.3.7, a.3.8]
< (18446744073709551616 : Int)) ∧ True) ∧ ((dnum [a.3.1, a.3.2, a.3.3, a.3.4, a.3.5, a.3.6, a.3.7, a.3.8] = dnum [a.3.1, a.3.2, a.3.3, a.3.4, a.3.5, a.3.6, a.3.7, a.3.8] ∧ True) ∧
True) ∧ (∀ (x1 : Byts), HE IntKind.u8 x1.1 (num (Int.toNat (dnum [a.3.1, a.3.2, a.3.3, a.3.4, a.3.5, a.3.6, a.3.7, a.3.8]))) ∧ List.length x1.1 ≤ x1.2 → (0 : Nat) + List.length
x1.1 * (1 : Nat) ≤ List.length x1.1 ∧ ∀ (x2 : List Value), x2 = lwin x1.1 (0 : Nat) (List.length x1.1 * (1 : Nat)) → ((1 : Nat) + List.length x1.1 ≤ (1 : Nat) → Bool.true =
Bool.true ∧ lall oneK x2 = Bool.true ∧ (1 : Nat) + List.length x2 ≤ (1 : Nat) ∧ ∀ (x3 : Nat) (x4 : List Value), x3 = (1 : Nat) + List.length x1.1 → x4 = lput [Value.int IntKind.u8
(1 : Int)] (1 : Nat) x2 → ∃ (x5 : RW), ((List.length x5.2 ≤ x5.1 ∧ List.length x5.2 ≤ (3000 : Nat)) ∧ ∀ (x6 : List Int), MH a x6 → HE IntKind.u8 x5.2 (encM a.1 x6 a.3)) ∧ ((0 :
Nat) = (0 : Nat) ∧ List.length x5.2 = x3 ∧ x5.1 = (1 : Nat)) ∧ ((x5.1 = (0 : Nat) ∧ x4 = []) ∧ FlatL x5.2 ∧ x5.2 = x4) ∧ True) ∧ (¬(1 : Nat) + List.length x1.1 ≤ (1 : Nat) → Few
((1 : Nat) + List.length x1.1) (1 : Nat) ∧ (1 : Nat) ≤ (1 : Nat) ∧ ∀ (x7 : Nat) (x8 : List Value), x7 = (1 : Nat) + List.length x1.1 → x8 = lwin [Value.int IntKind.u8 (1 : Int)] (0
: Nat) (1 : Nat) ++ x2 → ∃ (x9 : RW), ((List.length x9.2 ≤ x9.1 ∧ List.length x9.2 ≤ (3000 : Nat)) ∧ ∀ (x10 : List Int), MH a x10 → HE IntKind.u8 x9.2 (encM a.1 x10 a.3)) ∧ ((0 :
Nat) = (0 : Nat) ∧ List.length x9.2 = x7 ∧ x9.1 = x7) ∧ (x9.1 = x7 ∧ FlatL x9.2 ∧ x9.2 = x8) ∧ True)) ∧ True) ∧ True) ∧ (a.1 = Bool.false → ∀ (x11 : Int), x11 = (↑a.2.3 : Int) → ∀
(x12 : Int), x12 = IntKind.wrap IntKind.u64 x11 → (True ∧ ((0 : Int) ≤ x12 ∧ x12 < (18446744073709551616 : Int)) ∧ True) ∧ ((x12 = x12 ∧ True) ∧ True) ∧ (∀ (x13 : Byts), HE
IntKind.u8 x13.1 (num (Int.toNat x12)) ∧ List.length x13.1 ≤ x13.2 → (0 : Nat) + List.length x13.1 * (1 : Nat) ≤ List.length x13.1 ∧ ∀ (x14 : List Value), x14 = lwin x13.1 (0 :
Nat) (List.length x13.1 * (1 : Nat)) → ((1 : Nat) + List.length x13.1 ≤ (1 : Nat) → Bool.true = Bool.true ∧ lall oneK x14 = Bool.true ∧ (1 : Nat) + List.length x14 ≤ (1 : Nat) ∧ ∀
(x15 : Nat) (x16 : List Value), x15 = (1 : Nat) + List.length x13.1 → x16 = lput [Value.int IntKind.u8 (0 : Int)] (1 : Nat) x14 → ∃ (x17 : EM2), (((0 : Int) ≤ x17.1 ∧ x17.1 ≤
(↑a.2.3 : Int)) ∧ (HE IntKind.u8 x17.3 (encMk xs (Int.toNat x17.1)) ∧ List.length x17.3 ≤ x17.2) ∧ (↑(List.length x17.3) : Int) ≤ (20 : Int) + (10 : Int) * x17.1) ∧ (((0 : Nat) =
(0 : Nat) ∧ ((0 : Nat) = (0 : Nat) ∧ List.length x17.3 = x15 ∧ x17.2 = (1 : Nat)) ∧ x17.1 = (0 : Int) ∧ True) ∧ ((True ∧ a.1 = a.1 ∧ (a.2.1 = a.2.1 ∧ a.2.2 = a.2.2 ∧ a.2.3 = a.2.3
∧ a.2.4 = a.2.4) ∧ a.3.1 = a.3.1 ∧ a.3.2 = a.3.2 ∧ a.3.3 = a.3.3 ∧ a.3.4 = a.3.4 ∧ a.3.5 = a.3.5 ∧ a.3.6 = a.3.6 ∧ a.3.7 = a.3.7 ∧ a.3.8 = a.3.8 ∧ True) ∧ ((x17.2 = (0 : Nat) ∧ x16
= []) ∧ FlatL x17.3 ∧ x17.3 = x16) ∧ (True ∧ FlatL a.2.5 ∧ a.2.5 = a.2.5) ∧ True) ∧ True) ∧ ∀ (x18 : EM2), ((0 : Int) ≤ x18.1 ∧ x18.1 ≤ (↑a.2.3 : Int)) ∧ (HE IntKind.u8 x18.3
(encMk xs (Int.toNat x18.1)) ∧ List.length x18.3 ≤ x18.2) ∧ (↑(List.length x18.3) : Int) ≤ (20 : Int) + (10 : Int) * x18.1 → ∀ (x19 : Int), x19 = (↑a.2.3 : Int) → (x18.1 < x19 →
((0 : Int) ≤ x18.1 ∧ x18.1 < (↑a.2.3 : Int)) ∧ ∀ (x20 : Nat), x20 = a.2.2 + Int.toNat x18.1 * (1 : Nat) → ∃ (x21 : Int), Rd a.2.5 (Nat.add x20 (0 : Nat)) (Value.int IntKind.i32
x21) ∧ ∀ (x22 : Int), x22 = IntKind.wrap IntKind.i64 x21 → (True ∧ ((-9223372036854775808 : Int) ≤ x22 ∧ x22 ≤ (9223372036854775807 : Int)) ∧ True) ∧ ((x22 = x22 ∧ True) ∧ True) ∧
(∀ (x23 : Byts), HE IntKind.u8 x23.1 (num (Int.toNat (foldI x22))) ∧ List.length x23.1 ≤ x23.2 → (0 : Nat) + List.length x23.1 * (1 : Nat) ≤ List.length x23.1 ∧ ∀ (x24 : List
Value), x24 = lwin x23.1 (0 : Nat) (List.length x23.1 * (1 : Nat)) → ((0 : Nat) = (0 : Nat) ∧ List.length x18.3 = List.length x18.3 * (1 : Nat) ∧ x18.2 = x18.2 ∧ List.length x18.3
≤ x18.2 ∧ Few (List.length x18.3 + List.length x23.1) (1 : Nat) ∧ lall oneK x24 = Bool.true) ∧ ∀ (x25 x26 : Nat), x25 = List.length x18.3 + List.length x23.1 → (x26 = if x25 ≤
EM2.k x18 then x18.2 else x25) → ∀ (x27 : Int), x27 = IntKind.wrap IntKind.i64 (x18.1 + (1 : Int)) → ∃ (x28 : EM2), (((0 : Int) ≤ x28.1 ∧ x28.1 ≤ (↑a.2.3 : Int)) ∧ (HE IntKind.u8
x28.3 (encMk xs (Int.toNat x28.1)) ∧ List.length x28.3 ≤ x28.2) ∧ (↑(List.length x28.3) : Int) ≤ (20 : Int) + (10 : Int) * x28.1) ∧ Int.toNat ((↑a.2.3 : Int) - x28.1) < Int.toNat
((↑a.2.3 : Int) - x18.1) ∧ ((0 : Nat) = (0 : Nat) ∧ ((0 : Nat) = (0 : Nat) ∧ List.length x28.3 = x25 ∧ x28.2 = x26) ∧ x28.1 = x27 ∧ True) ∧ ((True ∧ a.1 = a.1 ∧ (a.2.1 = a.2.1 ∧
a.2.2 = a.2.2 ∧ a.2.3 = a.2.3 ∧ a.2.4 = a.2.4) ∧ a.3.1 = a.3.1 ∧ a.3.2 = a.3.2 ∧ a.3.3 = a.3.3 ∧ a.3.4 = a.3.4 ∧ a.3.5 = a.3.5 ∧ a.3.6 = a.3.6 ∧ a.3.7 = a.3.7 ∧ a.3.8 = a.3.8 ∧
True) ∧ (x28.2 = x26 ∧ FlatL x28.3 ∧ x28.3 = x18.3 ++ x24) ∧ (True ∧ FlatL a.2.5 ∧ a.2.5 = a.2.5) ∧ True) ∧ True) ∧ True) ∧ (¬x18.1 < x19 → ∃ (x29 : RW), ((List.length x29.2 ≤
x29.1 ∧ List.length x29.2 ≤ (3000 : Nat)) ∧ ∀ (x30 : List Int), MH a x30 → HE IntKind.u8 x29.2 (encM a.1 x30 a.3)) ∧ ((0 : Nat) = (0 : Nat) ∧ List.length x29.2 = List.length x18.3
∧ x29.1 = x18.2) ∧ (x29.1 = x18.2 ∧ FlatL x29.2 ∧ x29.2 = x18.3) ∧ True)) ∧ (¬(1 : Nat) + List.length x13.1 ≤ (1 : Nat) → Few ((1 : Nat) + List.length x13.1) (1 : Nat) ∧ (1 : Nat)
≤ (1 : Nat) ∧ ∀ (x31 : Nat) (x32 : List Value), x31 = (1 : Nat) + List.length x13.1 → x32 = lwin [Value.int IntKind.u8 (0 : Int)] (0 : Nat) (1 : Nat) ++ x14 → ∃ (x33 : EM2), (((0 :
Int) ≤ x33.1 ∧ x33.1 ≤ (↑a.2.3 : Int)) ∧ (HE IntKind.u8 x33.3 (encMk xs (Int.toNat x33.1)) ∧ List.length x33.3 ≤ x33.2) ∧ (↑(List.length x33.3) : Int) ≤ (20 : Int) + (10 : Int) *
x33.1) ∧ (((0 : Nat) = (0 : Nat) ∧ ((0 : Nat) = (0 : Nat) ∧ List.length x33.3 = x31 ∧ x33.2 = x31) ∧ x33.1 = (0 : Int) ∧ True) ∧ ((True ∧ a.1 = a.1 ∧ (a.2.1 = a.2.1 ∧ a.2.2 = a.2.2
∧ a.2.3 = a.2.3 ∧ a.2.4 = a.2.4) ∧ a.3.1 = a.3.1 ∧ a.3.2 = a.3.2 ∧ a.3.3 = a.3.3 ∧ a.3.4 = a.3.4 ∧ a.3.5 = a.3.5 ∧ a.3.6 = a.3.6 ∧ a.3.7 = a.3.7 ∧ a.3.8 = a.3.8 ∧ True) ∧ (x33.2 =
x31 ∧ FlatL x33.3 ∧ x33.3 = x32) ∧ (True ∧ FlatL a.2.5 ∧ a.2.5 = a.2.5) ∧ True) ∧ True) ∧ ∀ (x34 : EM2), ((0 : Int) ≤ x34.1 ∧ x34.1 ≤ (↑a.2.3 : Int)) ∧ (HE IntKind.u8 x34.3 (encMk
xs (Int.toNat x34.1)) ∧ List.length x34.3 ≤ x34.2) ∧ (↑(List.length x34.3) : Int) ≤ (20 : Int) + (10 : Int) * x34.1 → ∀ (x35 : Int), x35 = (↑a.2.3 : Int) → (x34.1 < x35 → ((0 :
Int) ≤ x34.1 ∧ x34.1 < (↑a.2.3 : Int)) ∧ ∀ (x36 : Nat), x36 = a.2.2 + Int.toNat x34.1 * (1 : Nat) → ∃ (x37 : Int), Rd a.2.5 (Nat.add x36 (0 : Nat)) (Value.int IntKind.i32 x37) ∧ ∀
(x38 : Int), x38 = IntKind.wrap IntKind.i64 x37 → (True ∧ ((-9223372036854775808 : Int) ≤ x38 ∧ x38 ≤ (9223372036854775807 : Int)) ∧ True) ∧ ((x38 = x38 ∧ True) ∧ True) ∧ (∀ (x39 :
Byts), HE IntKind.u8 x39.1 (num (Int.toNat (foldI x38))) ∧ List.length x39.1 ≤ x39.2 → (0 : Nat) + List.length x39.1 * (1 : Nat) ≤ List.length x39.1 ∧ ∀ (x40 : List Value), x40 =
lwin x39.1 (0 : Nat) (List.length x39.1 * (1 : Nat)) → ((0 : Nat) = (0 : Nat) ∧ List.length x34.3 = List.length x34.3 * (1 : Nat) ∧ x34.2 = x34.2 ∧ List.length x34.3 ≤ x34.2 ∧ Few
(List.length x34.3 + List.length x39.1) (1 : Nat) ∧ lall oneK x40 = Bool.true) ∧ ∀ (x41 x42 : Nat), x41 = List.length x34.3 + List.length x39.1 → (x42 = if x41 ≤ EM2.k x34 then
x34.2 else x41) → ∀ (x43 : Int), x43 = IntKind.wrap IntKind.i64 (x34.1 + (1 : Int)) → ∃ (x44 : EM2), (((0 : Int) ≤ x44.1 ∧ x44.1 ≤ (↑a.2.3 : Int)) ∧ (HE IntKind.u8 x44.3 (encMk xs
(Int.toNat x44.1)) ∧ List.length x44.3 ≤ x44.2) ∧ (↑(List.length x44.3) : Int) ≤ (20 : Int) + (10 : Int) * x44.1) ∧ Int.toNat ((↑a.2.3 : Int) - x44.1) < Int.toNat ((↑a.2.3 : Int) -
x34.1) ∧ ((0 : Nat) = (0 : Nat) ∧ ((0 : Nat) = (0 : Nat) ∧ List.length x44.3 = x41 ∧ x44.2 = x42) ∧ x44.1 = x43 ∧ True) ∧ ((True ∧ a.1 = a.1 ∧ (a.2.1 = a.2.1 ∧ a.2.2 = a.2.2 ∧
a.2.3 = a.2.3 ∧ a.2.4 = a.2.4) ∧ a.3.1 = a.3.1 ∧ a.3.2 = a.3.2 ∧ a.3.3 = a.3.3 ∧ a.3.4 = a.3.4 ∧ a.3.5 = a.3.5 ∧ a.3.6 = a.3.6 ∧ a.3.7 = a.3.7 ∧ a.3.8 = a.3.8 ∧ True) ∧ (x44.2 =
x42 ∧ FlatL x44.3 ∧ x44.3 = x34.3 ++ x40) ∧ (True ∧ FlatL a.2.5 ∧ a.2.5 = a.2.5) ∧ True) ∧ True) ∧ True) ∧ (¬x34.1 < x35 → ∃ (x45 : RW), ((List.length x45.2 ≤ x45.1 ∧ List.length
x45.2 ≤ (3000 : Nat)) ∧ ∀ (x46 : List Int), MH a x46 → HE IntKind.u8 x45.2 (encM a.1 x46 a.3)) ∧ ((0 : Nat) = (0 : Nat) ∧ List.length x45.2 = List.length x34.3 ∧ x45.1 = x34.2) ∧
(x45.1 = x34.2 ∧ FlatL x45.2 ∧ x45.2 = x34.3) ∧ True))) ∧ True)) := by kernel_rfl
theorem vc_decM (a : SA) : G_decM a = ((True ∧ (∃ (x0 : List Int), Sli (Value.int IntKind.u8) (1 : Nat) a.1 a.2 a.3 a.4 a.5 x0) ∧ a.3 ≤ (1000000 : Nat) ∧ (0 : Int) ≤ Int.ofNat (0 : Nat) ∧ Int.ofNat (0 : Nat) ≤ (1000000
: Int)) ∧ (((a.1 = a.1 ∧ a.2 = a.2 ∧ a.3 = a.3 ∧ a.4 = a.4) ∧ Int.ofNat (0 : Nat) = (0 : Int) ∧ True) ∧ (True ∧ FlatL a.5 ∧ a.5 = a.5) ∧ True) ∧ (∀ (x1 : OW), (x1.2 = a.3 +
Int.toNat (Int.ofNat (0 : Nat)) ∧ ∀ (x2 : List Int), Sli (Value.int IntKind.u8) (1 : Nat) a.1 a.2 a.3 a.4 a.5 x2 → OwB x1 x2) → (True ∧ (∃ (x3 : List Int), RI (RA.mk (SA.mk
Bool.false (0 : Nat) x1.1 x1.2 x1.3) (0 : Int) (0 : Int) (1 : Int)) x3) ∧ (Bool.false = Bool.false ∧ nat_lit 0 = (0 : Nat)) ∧ x1.1 ≤ (1000000 : Nat)) ∧ (((0 : Nat) = (0 : Nat) ∧
Int.ofNat (1 : Nat) = (1 : Int) ∧ True) ∧ (True ∧ ((0 : Nat) = (0 : Nat) ∧ x1.1 = x1.1 ∧ x1.2 = x1.2) ∧ Int.ofNat (0 : Nat) = (0 : Int) ∧ Int.ofNat (0 : Nat) = (0 : Int) ∧ True) ∧
(True ∧ FlatL x1.3 ∧ x1.3 = x1.3) ∧ True) ∧ (∀ (x4 : RR), (∀ (x5 : List Int), RI (RA.mk (SA.mk Bool.false (0 : Nat) x1.1 x1.2 x1.3) (0 : Int) (0 : Int) (1 : Int)) x5 → x4 = rdC x5
(Int.ofNat (0 : Nat)) (Int.ofNat (0 : Nat)) (Int.ofNat (1 : Nat))) → (x4.3 = (1 : Int) → (True ∧ (∃ (x6 : List Int), RI (RA.mk (SA.mk Bool.false (0 : Nat) x1.1 x1.2 x1.3) x4.1 x4.2
(18446744073709551615 : Int)) x6) ∧ (Bool.false = Bool.false ∧ nat_lit 0 = (0 : Nat)) ∧ x1.1 ≤ (1000000 : Nat)) ∧ (((0 : Nat) = (0 : Nat) ∧ Int.ofNat (18446744073709551615 : Nat) =
(18446744073709551615 : Int) ∧ True) ∧ (True ∧ ((0 : Nat) = (0 : Nat) ∧ x1.1 = x1.1 ∧ x1.2 = x1.2) ∧ x4.1 = x4.1 ∧ x4.2 = x4.2 ∧ True) ∧ (True ∧ FlatL x1.3 ∧ x1.3 = x1.3) ∧ True) ∧
(∀ (x7 : RR), (∀ (x8 : List Int), RI (RA.mk (SA.mk Bool.false (0 : Nat) x1.1 x1.2 x1.3) x4.1 x4.2 (18446744073709551615 : Int)) x8 → x7 = rdC x8 x4.1 x4.2 (Int.ofNat
(18446744073709551615 : Nat))) → (True ∧ ((0 : Int) ≤ x7.3 ∧ x7.3 < (18446744073709551616 : Int)) ∧ True) ∧ ((x7.3 = x7.3 ∧ True) ∧ True) ∧ (∀ (x9 : Unit), True → (x7.2 ≠ (0 : Int)
→ (x7.2 ≠ (0 : Int) → ∃ (x10 : EE), (x10.1 ≠ (0 : Int) ∧ ∀ (x11 : List Int), Sli (Value.int IntKind.u8) (1 : Nat) a.1 a.2 a.3 a.4 a.5 x11 → (decM x11).1 = x10.1) ∧ ((Bool.false =
Bool.false ∧ ((0 : Nat) = (0 : Nat) ∧ (0 : Nat) = (0 : Nat)) ∧ (0 : Int) = (0 : Int) ∧ (0 : Int) = (0 : Int) ∧ (0 : Int) = (0 : Int) ∧ (0 : Int) = (0 : Int) ∧ (0 : Int) = (0 : Int)
∧ (0 : Int) = (0 : Int) ∧ (0 : Int) = (0 : Int) ∧ (0 : Int) = (0 : Int) ∧ True) ∧ x10.1 = x7.2 ∧ True) ∧ True) ∧ (¬x7.2 ≠ (0 : Int) → ∃ (x12 : MR), (∀ (x13 : List Int), Sli
(Value.int IntKind.u8) (1 : Nat) a.1 a.2 a.3 a.4 a.5 x13 → ∃ (x14 : List Int), LC x12.2 x14 ∧ decM x13 = DM.mk (0 : Int) x12.1 x14 x12.3) ∧ ((x12.1 = Bool.true ∧ (x12.2.1 =
Bool.true ∧ x12.2.2 = (0 : Nat) ∧ x12.2.3 = (0 : Nat)) ∧ x12.3.1 = x7.3 % (256 : Int) ∧ x12.3.2 = x7.3 / (256 : Int) % (256 : Int) ∧ x12.3.3 = x7.3 / (65536 : Int) % (256 : Int) ∧
x12.3.4 = x7.3 / (16777216 : Int) % (256 : Int) ∧ x12.3.5 = x7.3 / (4294967296 : Int) % (256 : Int) ∧ x12.3.6 = x7.3 / (1099511627776 : Int) % (256 : Int) ∧ x12.3.7 = x7.3 /
(281474976710656 : Int) % (256 : Int) ∧ x12.3.8 = x7.3 / (72057594037927936 : Int) % (256 : Int) ∧ True) ∧ (0 : Int) = (0 : Int) ∧ True) ∧ (FlatL x12.2.4 ∧ True) ∧ True)) ∧ (¬x7.2
≠ (0 : Int) → ∀ (x15 : Int), x15 = (↑x1.1 : Int) → ∀ (x16 : Int), x16 = IntKind.wrap IntKind.i64 (x15 - x7.1) → (True ∧ True ∧ True ∧ True ∧ True ∧ True ∧ True ∧ True ∧ True ∧ True
∧ True ∧ True) ∧ ((0 : Int) < x16 → ∃ (x17 : EE), (x17.1 ≠ (0 : Int) ∧ ∀ (x18 : List Int), Sli (Value.int IntKind.u8) (1 : Nat) a.1 a.2 a.3 a.4 a.5 x18 → (decM x18).1 = x17.1) ∧
((Bool.false = Bool.false ∧ ((0 : Nat) = (0 : Nat) ∧ (0 : Nat) = (0 : Nat)) ∧ (0 : Int) = (0 : Int) ∧ (0 : Int) = (0 : Int) ∧ (0 : Int) = (0 : Int) ∧ (0 : Int) = (0 : Int) ∧ (0 :
Int) = (0 : Int) ∧ (0 : Int) = (0 : Int) ∧ (0 : Int) = (0 : Int) ∧ (0 : Int) = (0 : Int) ∧ True) ∧ x17.1 = (5 : Int) ∧ True) ∧ True) ∧ (¬(0 : Int) < x16 → ∃ (x19 : MR), (∀ (x20 :
List Int), Sli (Value.int IntKind.u8) (1 : Nat) a.1 a.2 a.3 a.4 a.5 x20 → ∃ (x21 : List Int), LC x19.2 x21 ∧ decM x20 = DM.mk (0 : Int) x19.1 x21 x19.3) ∧ ((x19.1 = Bool.true ∧
(x19.2.1 = Bool.true ∧ x19.2.2 = (0 : Nat) ∧ x19.2.3 = (0 : Nat)) ∧ x19.3.1 = x7.3 % (256 : Int) ∧ x19.3.2 = x7.3 / (256 : Int) % (256 : Int) ∧ x19.3.3 = x7.3 / (65536 : Int) %
(256 : Int) ∧ x19.3.4 = x7.3 / (16777216 : Int) % (256 : Int) ∧ x19.3.5 = x7.3 / (4294967296 : Int) % (256 : Int) ∧ x19.3.6 = x7.3 / (1099511627776 : Int) % (256 : Int) ∧ x19.3.7 =
x7.3 / (281474976710656 : Int) % (256 : Int) ∧ x19.3.8 = x7.3 / (72057594037927936 : Int) % (256 : Int) ∧ True) ∧ (0 : Int) = (0 : Int) ∧ True) ∧ (FlatL x19.2.4 ∧ True) ∧ True))) ∧
True) ∧ True) ∧ (¬x4.3 = (1 : Int) → (True ∧ (∃ (x22 : List Int), RI (RA.mk (SA.mk Bool.false (0 : Nat) x1.1 x1.2 x1.3) x4.1 x4.2 (4 : Int)) x22) ∧ (Bool.false = Bool.false ∧
nat_lit 0 = (0 : Nat)) ∧ x1.1 ≤ (1000000 : Nat) ∧ Int.ofNat (4 : Nat) ≤ (1000 : Int)) ∧ (((0 : Nat) = (0 : Nat) ∧ Int.ofNat (4 : Nat) = (4 : Int) ∧ True) ∧ (True ∧ ((0 : Nat) = (0
: Nat) ∧ x1.1 = x1.1 ∧ x1.2 = x1.2) ∧ x4.1 = x4.1 ∧ x4.2 = x4.2 ∧ True) ∧ (True ∧ FlatL x1.3 ∧ x1.3 = x1.3) ∧ True) ∧ (∀ (x23 : WS), (∀ (x24 : List Int), RI (RA.mk (SA.mk
Bool.false (0 : Nat) x1.1 x1.2 x1.3) x4.1 x4.2 (4 : Int)) x24 → x23.3 = (wsC x24 (Int.toNat (rdC x24 x4.1 x4.2 (Int.ofNat (4 : Nat))).3) (rdC x24 x4.1 x4.2 (Int.ofNat (4 : Nat))).1
(rdC x24 x4.1 x4.2 (Int.ofNat (4 : Nat))).2).2 ∧ (x23.3 = (0 : Int) → x23.2 = (0 : Int) ∧ x23.1 = (wsC x24 (Int.toNat (rdC x24 x4.1 x4.2 (Int.ofNat (4 : Nat))).3) (rdC x24 x4.1
x4.2 (Int.ofNat (4 : Nat))).1 (rdC x24 x4.1 x4.2 (Int.ofNat (4 : Nat))).2).1 ∧ LC x23.4 (wsC x24 (Int.toNat (rdC x24 x4.1 x4.2 (Int.ofNat (4 : Nat))).3) (rdC x24 x4.1 x4.2
(Int.ofNat (4 : Nat))).1 (rdC x24 x4.1 x4.2 (Int.ofNat (4 : Nat))).2).3)) → (x23.3 ≠ (0 : Int) → ∃ (x25 : EE), (x25.1 ≠ (0 : Int) ∧ ∀ (x26 : List Int), Sli (Value.int IntKind.u8)
(1 : Nat) a.1 a.2 a.3 a.4 a.5 x26 → (decM x26).1 = x25.1) ∧ ((Bool.false = Bool.false ∧ ((0 : Nat) = (0 : Nat) ∧ (0 : Nat) = (0 : Nat)) ∧ (0 : Int) = (0 : Int) ∧ (0 : Int) = (0 :
Int) ∧ (0 : Int) = (0 : Int) ∧ (0 : Int) = (0 : Int) ∧ (0 : Int) = (0 : Int) ∧ (0 : Int) = (0 : Int) ∧ (0 : Int) = (0 : Int) ∧ (0 : Int) = (0 : Int) ∧ True) ∧ x25.1 = x23.3 ∧ True)
∧ True) ∧ (¬x23.3 ≠ (0 : Int) → (x23.2 ≠ (0 : Int) → (x23.2 ≠ (0 : Int) → ∃ (x27 : EE), (x27.1 ≠ (0 : Int) ∧ ∀ (x28 : List Int), Sli (Value.int IntKind.u8) (1 : Nat) a.1 a.2 a.3
a.4 a.5 x28 → (decM x28).1 = x27.1) ∧ ((Bool.false = Bool.false ∧ ((0 : Nat) = (0 : Nat) ∧ (0 : Nat) = (0 : Nat)) ∧ (0 : Int) = (0 : Int) ∧ (0 : Int) = (0 : Int) ∧ (0 : Int) = (0 :
Int) ∧ (0 : Int) = (0 : Int) ∧ (0 : Int) = (0 : Int) ∧ (0 : Int) = (0 : Int) ∧ (0 : Int) = (0 : Int) ∧ (0 : Int) = (0 : Int) ∧ True) ∧ x27.1 = x23.2 ∧ True) ∧ True) ∧ (¬x23.2 ≠ (0
: Int) → ∃ (x29 : MR), (∀ (x30 : List Int), Sli (Value.int IntKind.u8) (1 : Nat) a.1 a.2 a.3 a.4 a.5 x30 → ∃ (x31 : List Int), LC x29.2 x31 ∧ decM x30 = DM.mk (0 : Int) x29.1 x31
x29.3) ∧ ((x29.1 = Bool.false ∧ (x29.2.1 = x23.4.1 ∧ (0 : Nat) = (0 : Nat) ∧ x29.2.2 = x23.4.2 ∧ x29.2.3 = x23.4.3) ∧ x29.3.1 = (0 : Int) ∧ x29.3.2 = (0 : Int) ∧ x29.3.3 = (0 :
Int) ∧ x29.3.4 = (0 : Int) ∧ x29.3.5 = (0 : Int) ∧ x29.3.6 = (0 : Int) ∧ x29.3.7 = (0 : Int) ∧ x29.3.8 = (0 : Int) ∧ True) ∧ (0 : Int) = (0 : Int) ∧ True) ∧ (x29.2.3 = x23.4.3 ∧
FlatL x29.2.4 ∧ x29.2.4 = x23.4.4) ∧ True)) ∧ (¬x23.2 ≠ (0 : Int) → ∀ (x32 : Int), x32 = (↑x1.1 : Int) → ∀ (x33 : Int), x33 = IntKind.wrap IntKind.i64 (x32 - x23.1) → (True ∧ True
∧ True ∧ True ∧ True ∧ True ∧ True ∧ True ∧ True ∧ True ∧ True ∧ True) ∧ ((0 : Int) < x33 → ∃ (x34 : EE), (x34.1 ≠ (0 : Int) ∧ ∀ (x35 : List Int), Sli (Value.int IntKind.u8) (1 :
Nat) a.1 a.2 a.3 a.4 a.5 x35 → (decM x35).1 = x34.1) ∧ ((Bool.false = Bool.false ∧ ((0 : Nat) = (0 : Nat) ∧ (0 : Nat) = (0 : Nat)) ∧ (0 : Int) = (0 : Int) ∧ (0 : Int) = (0 : Int) ∧
(0 : Int) = (0 : Int) ∧ (0 : Int) = (0 : Int) ∧ (0 : Int) = (0 : Int) ∧ (0 : Int) = (0 : Int) ∧ (0 : Int) = (0 : Int) ∧ (0 : Int) = (0 : Int) ∧ True) ∧ x34.1 = (5 : Int) ∧ True) ∧
True) ∧ (¬(0 : Int) < x33 → ∃ (x36 : MR), (∀ (x37 : List Int), Sli (Value.int IntKind.u8) (1 : Nat) a.1 a.2 a.3 a.4 a.5 x37 → ∃ (x38 : List Int), LC x36.2 x38 ∧ decM x37 = DM.mk (0
: Int) x36.1 x38 x36.3) ∧ ((x36.1 = Bool.false ∧ (x36.2.1 = x23.4.1 ∧ (0 : Nat) = (0 : Nat) ∧ x36.2.2 = x23.4.2 ∧ x36.2.3 = x23.4.3) ∧ x36.3.1 = (0 : Int) ∧ x36.3.2 = (0 : Int) ∧
x36.3.3 = (0 : Int) ∧ x36.3.4 = (0 : Int) ∧ x36.3.5 = (0 : Int) ∧ x36.3.6 = (0 : Int) ∧ x36.3.7 = (0 : Int) ∧ x36.3.8 = (0 : Int) ∧ True) ∧ (0 : Int) = (0 : Int) ∧ True) ∧ (x36.2.3
= x23.4.3 ∧ FlatL x36.2.4 ∧ x36.2.4 = x23.4.4) ∧ True)))) ∧ True)) ∧ True) ∧ True) := by kernel_rfl
theorem vc_decM2 (a : SA) (xs : List Int) : G_decM2 a xs = ((True ∧ (∃ (x0 : List Int), RI (RA.mk (SA.mk a.1 a.2 a.3 a.4 a.5) (0 : Int) (0 : Int) (1 : Int)) x0) ∧ a.3 ≤ (1000000 : Nat)) ∧ ((((a.1 = a.1 ∧ a.2 = a.2 ∧ a.3 = a.3 ∧ a.4 = a.4) ∧
Int.ofNat (0 : Nat) = (0 : Int) ∧ Int.ofNat (0 : Nat) = (0 : Int) ∧ True) ∧ Int.ofNat (1 : Nat) = (1 : Int) ∧ True) ∧ (True ∧ FlatL a.5 ∧ a.5 = a.5) ∧ True) ∧ (∀ (x1 : RR), (∀ (x2
: List Int), RI (RA.mk (SA.mk a.1 a.2 a.3 a.4 a.5) (0 : Int) (0 : Int) (1 : Int)) x2 → x1 = rdC x2 (Int.ofNat (0 : Nat)) (Int.ofNat (0 : Nat)) (Int.ofNat (1 : Nat))) → (x1.3 = (1 :
Int) → (True ∧ (∃ (x3 : List Int), RI (RA.mk (SA.mk a.1 a.2 a.3 a.4 a.5) x1.1 x1.2 (18446744073709551615 : Int)) x3) ∧ a.3 ≤ (1000000 : Nat)) ∧ ((((a.1 = a.1 ∧ a.2 = a.2 ∧ a.3 =
a.3 ∧ a.4 = a.4) ∧ x1.1 = x1.1 ∧ x1.2 = x1.2 ∧ True) ∧ Int.ofNat (18446744073709551615 : Nat) = (18446744073709551615 : Int) ∧ True) ∧ (True ∧ FlatL a.5 ∧ a.5 = a.5) ∧ True) ∧ (∀
(x4 : RR), (∀ (x5 : List Int), RI (RA.mk (SA.mk a.1 a.2 a.3 a.4 a.5) x1.1 x1.2 (18446744073709551615 : Int)) x5 → x4 = rdC x5 x1.1 x1.2 (Int.ofNat (18446744073709551615 : Nat))) →
(True ∧ ((0 : Int) ≤ x4.3 ∧ x4.3 < (18446744073709551616 : Int)) ∧ True) ∧ ((x4.3 = x4.3 ∧ True) ∧ True) ∧ (∀ (x6 : Unit), True → (x4.2 = (0 : Int) → ∀ (x7 : Int), x7 = (↑a.3 :
Int) → (x4.1 < x7 → ∃ (x8 : EE), (x8.1 ≠ (0 : Int) ∧ ∀ (x9 : List Int), Sli (Value.int IntKind.u8) (1 : Nat) a.1 a.2 a.3 a.4 a.5 x9 → (decM x9).1 = x8.1) ∧ ((Bool.false =
Bool.false ∧ ((0 : Nat) = (0 : Nat) ∧ (0 : Nat) = (0 : Nat)) ∧ (0 : Int) = (0 : Int) ∧ (0 : Int) = (0 : Int) ∧ (0 : Int) = (0 : Int) ∧ (0 : Int) = (0 : Int) ∧ (0 : Int) = (0 : Int)
∧ (0 : Int) = (0 : Int) ∧ (0 : Int) = (0 : Int) ∧ (0 : Int) = (0 : Int) ∧ True) ∧ x8.1 = (5 : Int) ∧ True) ∧ True) ∧ (¬x4.1 < x7 → (x4.2 ≠ (0 : Int) → ∃ (x10 : EE), (x10.1 ≠ (0 :
Int) ∧ ∀ (x11 : List Int), Sli (Value.int IntKind.u8) (1 : Nat) a.1 a.2 a.3 a.4 a.5 x11 → (decM x11).1 = x10.1) ∧ ((Bool.false = Bool.false ∧ ((0 : Nat) = (0 : Nat) ∧ (0 : Nat) =
(0 : Nat)) ∧ (0 : Int) = (0 : Int) ∧ (0 : Int) = (0 : Int) ∧ (0 : Int) = (0 : Int) ∧ (0 : Int) = (0 : Int) ∧ (0 : Int) = (0 : Int) ∧ (0 : Int) = (0 : Int) ∧ (0 : Int) = (0 : Int) ∧
(0 : Int) = (0 : Int) ∧ True) ∧ x10.1 = x4.2 ∧ True) ∧ True) ∧ (¬x4.2 ≠ (0 : Int) → ∃ (x12 : MR), (∀ (x13 : List Int), Sli (Value.int IntKind.u8) (1 : Nat) a.1 a.2 a.3 a.4 a.5 x13
→ ∃ (x14 : List Int), LC x12.2 x14 ∧ decM x13 = DM.mk (0 : Int) x12.1 x14 x12.3) ∧ ((x12.1 = Bool.true ∧ (x12.2.1 = Bool.true ∧ x12.2.2 = (0 : Nat) ∧ x12.2.3 = (0 : Nat)) ∧ x12.3.1
= x4.3 % (256 : Int) ∧ x12.3.2 = x4.3 / (256 : Int) % (256 : Int) ∧ x12.3.3 = x4.3 / (65536 : Int) % (256 : Int) ∧ x12.3.4 = x4.3 / (16777216 : Int) % (256 : Int) ∧ x12.3.5 = x4.3
/ (4294967296 : Int) % (256 : Int) ∧ x12.3.6 = x4.3 / (1099511627776 : Int) % (256 : Int) ∧ x12.3.7 = x4.3 / (281474976710656 : Int) % (256 : Int) ∧ x12.3.8 = x4.3 /
(72057594037927936 : Int) % (256 : Int) ∧ True) ∧ (0 : Int) = (0 : Int) ∧ True) ∧ (FlatL x12.2.4 ∧ True) ∧ True))) ∧ (¬x4.2 = (0 : Int) → (x4.2 ≠ (0 : Int) → ∃ (x15 : EE), (x15.1 ≠
(0 : Int) ∧ ∀ (x16 : List Int), Sli (Value.int IntKind.u8) (1 : Nat) a.1 a.2 a.3 a.4 a.5 x16 → (decM x16).1 = x15.1) ∧ ((Bool.false = Bool.false ∧ ((0 : Nat) = (0 : Nat) ∧ (0 :
Nat) = (0 : Nat)) ∧ (0 : Int) = (0 : Int) ∧ (0 : Int) = (0 : Int) ∧ (0 : Int) = (0 : Int) ∧ (0 : Int) = (0 : Int) ∧ (0 : Int) = (0 : Int) ∧ (0 : Int) = (0 : Int) ∧ (0 : Int) = (0 :
Int) ∧ (0 : Int) = (0 : Int) ∧ True) ∧ x15.1 = x4.2 ∧ True) ∧ True) ∧ (¬x4.2 ≠ (0 : Int) → ∃ (x17 : MR), (∀ (x18 : List Int), Sli (Value.int IntKind.u8) (1 : Nat) a.1 a.2 a.3 a.4
a.5 x18 → ∃ (x19 : List Int), LC x17.2 x19 ∧ decM x18 = DM.mk (0 : Int) x17.1 x19 x17.3) ∧ ((x17.1 = Bool.true ∧ (x17.2.1 = Bool.true ∧ x17.2.2 = (0 : Nat) ∧ x17.2.3 = (0 : Nat)) ∧
x17.3.1 = x4.3 % (256 : Int) ∧ x17.3.2 = x4.3 / (256 : Int) % (256 : Int) ∧ x17.3.3 = x4.3 / (65536 : Int) % (256 : Int) ∧ x17.3.4 = x4.3 / (16777216 : Int) % (256 : Int) ∧ x17.3.5
= x4.3 / (4294967296 : Int) % (256 : Int) ∧ x17.3.6 = x4.3 / (1099511627776 : Int) % (256 : Int) ∧ x17.3.7 = x4.3 / (281474976710656 : Int) % (256 : Int) ∧ x17.3.8 = x4.3 /
(72057594037927936 : Int) % (256 : Int) ∧ True) ∧ (0 : Int) = (0 : Int) ∧ True) ∧ (FlatL x17.2.4 ∧ True) ∧ True))) ∧ True) ∧ True) ∧ (¬x1.3 = (1 : Int) → (True ∧ (∃ (x20 : List
Int), RI (RA.mk (SA.mk a.1 a.2 a.3 a.4 a.5) x1.1 x1.2 (4 : Int)) x20) ∧ a.3 ≤ (1000000 : Nat)) ∧ ((((a.1 = a.1 ∧ a.2 = a.2 ∧ a.3 = a.3 ∧ a.4 = a.4) ∧ x1.1 = x1.1 ∧ x1.2 = x1.2 ∧
True) ∧ Int.ofNat (4 : Nat) = (4 : Int) ∧ True) ∧ (True ∧ FlatL a.5 ∧ a.5 = a.5) ∧ True) ∧ (∀ (x21 : RR), (∀ (x22 : List Int), RI (RA.mk (SA.mk a.1 a.2 a.3 a.4 a.5) x1.1 x1.2 (4 :
Int)) x22 → x21 = rdC x22 x1.1 x1.2 (Int.ofNat (4 : Nat))) → (∃ (x23 : WL), ((((0 : Int) ≤ x23.4 ∧ x23.4 ≤ x23.3) ∧ x23.3 = (q2C xs).3 ∧ (0 : Int) ≤ x23.1 ∧ x23.1 ≤ (↑a.3 : Int)) ∧
∃ (x24 : List Int), LC x23.5 x24 ∧ (↑(List.length x24) : Int) = x23.4 ∧ wsC xs (Int.toNat (q2C xs).3) (q2C xs).1 (q2C xs).2 = LW.mk (wsC xs (Int.toNat (x23.3 - x23.4)) x23.1
x23.2).1 (wsC xs (Int.toNat (x23.3 - x23.4)) x23.1 x23.2).2 (x24 ++ (wsC xs (Int.toNat (x23.3 - x23.4)) x23.1 x23.2).3)) ∧ (((0 : Nat) = (0 : Nat) ∧ (0 : Nat) = (0 : Nat) ∧ (0 :
Nat) = (0 : Nat) ∧ x23.3 = x21.3 ∧ x23.4 = (0 : Int) ∧ True) ∧ ((True ∧ FlatL a.5 ∧ a.5 = a.5) ∧ (True ∧ Bool.false = Bool.false ∧ (x23.5.1 = Bool.true ∧ x23.5.2 = (0 : Nat) ∧
x23.5.3 = (0 : Nat)) ∧ (0 : Int) = (0 : Int) ∧ (0 : Int) = (0 : Int) ∧ (0 : Int) = (0 : Int) ∧ (0 : Int) = (0 : Int) ∧ (0 : Int) = (0 : Int) ∧ (0 : Int) = (0 : Int) ∧ (0 : Int) =
(0 : Int) ∧ (0 : Int) = (0 : Int) ∧ True) ∧ (True ∧ (a.1 = a.1 ∧ a.2 = a.2 ∧ a.3 = a.3 ∧ a.4 = a.4) ∧ x23.1 = x21.1 ∧ x23.2 = x21.2 ∧ True) ∧ (FlatL x23.5.4 ∧ True) ∧ (True ∧
Bool.false = Bool.false ∧ ((0 : Nat) = (0 : Nat) ∧ (0 : Nat) = (0 : Nat)) ∧ (0 : Int) = (0 : Int) ∧ (0 : Int) = (0 : Int) ∧ (0 : Int) = (0 : Int) ∧ (0 : Int) = (0 : Int) ∧ (0 :
Int) = (0 : Int) ∧ (0 : Int) = (0 : Int) ∧ (0 : Int) = (0 : Int) ∧ (0 : Int) = (0 : Int) ∧ True) ∧ True) ∧ True) ∧ ∀ (x25 : WL), ((((0 : Int) ≤ x25.4 ∧ x25.4 ≤ x25.3) ∧ x25.3 =
(q2C xs).3 ∧ (0 : Int) ≤ x25.1 ∧ x25.1 ≤ (↑a.3 : Int)) ∧ ∃ (x26 : List Int), LC x25.5 x26 ∧ (↑(List.length x26) : Int) = x25.4 ∧ wsC xs (Int.toNat (q2C xs).3) (q2C xs).1 (q2C xs).2
= LW.mk (wsC xs (Int.toNat (x25.3 - x25.4)) x25.1 x25.2).1 (wsC xs (Int.toNat (x25.3 - x25.4)) x25.1 x25.2).2 (x26 ++ (wsC xs (Int.toNat (x25.3 - x25.4)) x25.1 x25.2).3)) → (x25.4
< x25.3 → (x25.2 = (0 : Int) → (True ∧ (∃ (x27 : List Int), RI (RA.mk (SA.mk a.1 a.2 a.3 a.4 a.5) x25.1 x25.2 (0 : Int)) x27) ∧ a.3 ≤ (1000000 : Nat)) ∧ ((((a.1 = a.1 ∧ a.2 = a.2 ∧
a.3 = a.3 ∧ a.4 = a.4) ∧ x25.1 = x25.1 ∧ x25.2 = x25.2 ∧ True) ∧ True) ∧ (True ∧ FlatL a.5 ∧ a.5 = a.5) ∧ True) ∧ (∀ (x28 : WR), (∀ (x29 : List Int), RI (RA.mk (SA.mk a.1 a.2 a.3
a.4 a.5) x25.1 x25.2 (0 : Int)) x29 → x28 = wdC x29 x25.1 x25.2) → (x25.5.1 = Bool.true → (1 : Nat) ≤ List.length [Value.iface (1000000007 : Nat) (Value.int IntKind.i32 x28.3)] ∧ ∀
(x30 : List Value), x30 = lwin [Value.iface (1000000007 : Nat) (Value.int IntKind.i32 x28.3)] (0 : Nat) (1 : Nat) → ((1 : Nat) = (0 : Nat) → ∀ (x31 : Int), x31 = IntKind.wrap
IntKind.u64 (x25.4 + (1 : Int)) → ∃ (x32 : WL), ((((0 : Int) ≤ x32.4 ∧ x32.4 ≤ x32.3) ∧ x32.3 = (q2C xs).3 ∧ (0 : Int) ≤ x32.1 ∧ x32.1 ≤ (↑a.3 : Int)) ∧ ∃ (x33 : List Int), LC
x32.5 x33 ∧ (↑(List.length x33) : Int) = x32.4 ∧ wsC xs (Int.toNat (q2C xs).3) (q2C xs).1 (q2C xs).2 = LW.mk (wsC xs (Int.toNat (x32.3 - x32.4)) x32.1 x32.2).1 (wsC xs (Int.toNat
(x32.3 - x32.4)) x32.1 x32.2).2 (x33 ++ (wsC xs (Int.toNat (x32.3 - x32.4)) x32.1 x32.2).3)) ∧ Int.toNat (x32.3 - x32.4) < Int.toNat (x25.3 - x25.4) ∧ ((0 : Nat) = (0 : Nat) ∧ (0 :
Nat) = (0 : Nat) ∧ (0 : Nat) = (0 : Nat) ∧ x32.3 = x25.3 ∧ x32.4 = x31 ∧ True) ∧ ((True ∧ FlatL a.5 ∧ a.5 = a.5) ∧ (True ∧ Bool.false = Bool.false ∧ (x32.5.1 = Bool.true ∧ x32.5.2
= (0 : Nat) ∧ x32.5.3 = (0 : Nat)) ∧ (0 : Int) = (0 : Int) ∧ (0 : Int) = (0 : Int) ∧ (0 : Int) = (0 : Int) ∧ (0 : Int) = (0 : Int) ∧ (0 : Int) = (0 : Int) ∧ (0 : Int) = (0 : Int) ∧
(0 : Int) = (0 : Int) ∧ (0 : Int) = (0 : Int) ∧ True) ∧ (True ∧ (a.1 = a.1 ∧ a.2 = a.2 ∧ a.3 = a.3 ∧ a.4 = a.4) ∧ x32.1 = x28.1 ∧ x32.2 = x28.2 ∧ True) ∧ (FlatL x32.5.4 ∧ True) ∧
(True ∧ Bool.false = Bool.false ∧ ((0 : Nat) = (0 : Nat) ∧ (0 : Nat) = (0 : Nat)) ∧ (0 : Int) = (0 : Int) ∧ (0 : Int) = (0 : Int) ∧ (0 : Int) = (0 : Int) ∧ (0 : Int) = (0 : Int) ∧
(0 : Int) = (0 : Int) ∧ (0 : Int) = (0 : Int) ∧ (0 : Int) = (0 : Int) ∧ (0 : Int) = (0 : Int) ∧ True) ∧ True) ∧ True) ∧ ((1 : Nat) ≠ (0 : Nat) → Few (1 : Nat) (4 : Nat) ∧ ∀ (x34 :
Int), x34 = IntKind.wrap IntKind.u64 (x25.4 + (1 : Int)) → ∃ (x35 : WL), ((((0 : Int) ≤ x35.4 ∧ x35.4 ≤ x35.3) ∧ x35.3 = (q2C xs).3 ∧ (0 : Int) ≤ x35.1 ∧ x35.1 ≤ (↑a.3 : Int)) ∧ ∃
(x36 : List Int), LC x35.5 x36 ∧ (↑(List.length x36) : Int) = x35.4 ∧ wsC xs (Int.toNat (q2C xs).3) (q2C xs).1 (q2C xs).2 = LW.mk (wsC xs (Int.toNat (x35.3 - x35.4)) x35.1 x35.2).1
(wsC xs (Int.toNat (x35.3 - x35.4)) x35.1 x35.2).2 (x36 ++ (wsC xs (Int.toNat (x35.3 - x35.4)) x35.1 x35.2).3)) ∧ Int.toNat (x35.3 - x35.4) < Int.toNat (x25.3 - x25.4) ∧ ((0 : Nat)
= (0 : Nat) ∧ (0 : Nat) = (0 : Nat) ∧ (0 : Nat) = (0 : Nat) ∧ x35.3 = x25.3 ∧ x35.4 = x34 ∧ True) ∧ ((True ∧ FlatL a.5 ∧ a.5 = a.5) ∧ (True ∧ Bool.false = Bool.false ∧ (x35.5.1 =
Bool.false ∧ (0 : Nat) = (0 : Nat) ∧ x35.5.2 = (1 : Nat) ∧ x35.5.3 = (1 : Nat)) ∧ (0 : Int) = (0 : Int) ∧ (0 : Int) = (0 : Int) ∧ (0 : Int) = (0 : Int) ∧ (0 : Int) = (0 : Int) ∧ (0
: Int) = (0 : Int) ∧ (0 : Int) = (0 : Int) ∧ (0 : Int) = (0 : Int) ∧ (0 : Int) = (0 : Int) ∧ True) ∧ (True ∧ (a.1 = a.1 ∧ a.2 = a.2 ∧ a.3 = a.3 ∧ a.4 = a.4) ∧ x35.1 = x28.1 ∧ x35.2
= x28.2 ∧ True) ∧ (x35.5.3 = (1 : Nat) ∧ FlatL x35.5.4 ∧ x35.5.4 = x30) ∧ (True ∧ Bool.false = Bool.false ∧ ((0 : Nat) = (0 : Nat) ∧ (0 : Nat) = (0 : Nat)) ∧ (0 : Int) = (0 : Int)
∧ (0 : Int) = (0 : Int) ∧ (0 : Int) = (0 : Int) ∧ (0 : Int) = (0 : Int) ∧ (0 : Int) = (0 : Int) ∧ (0 : Int) = (0 : Int) ∧ (0 : Int) = (0 : Int) ∧ (0 : Int) = (0 : Int) ∧ True) ∧
True) ∧ True)) ∧ (x25.5.1 = Bool.false → (1 : Nat) ≤ List.length [Value.iface (1000000007 : Nat) (Value.int IntKind.i32 x28.3)] ∧ ∀ (x37 : List Value), x37 = lwin [Value.iface
(1000000007 : Nat) (Value.int IntKind.i32 x28.3)] (0 : Nat) (1 : Nat) → ((0 : Nat) = (0 : Nat) ∧ List.length x25.5.4 = x25.5.2 * (1 : Nat) ∧ x25.5.3 = x25.5.3 ∧ x25.5.2 ≤ x25.5.3 ∧
Few (x25.5.2 + (1 : Nat)) (4 : Nat) ∧ lall oneK x37 = Bool.true) ∧ ∀ (x38 x39 : Nat), x38 = x25.5.2 + (1 : Nat) → (x39 = if x38 ≤ SN.k (WL.s x25) then x25.5.3 else x38) → ∀ (x40 :
Int), x40 = IntKind.wrap IntKind.u64 (x25.4 + (1 : Int)) → ∃ (x41 : WL), ((((0 : Int) ≤ x41.4 ∧ x41.4 ≤ x41.3) ∧ x41.3 = (q2C xs).3 ∧ (0 : Int) ≤ x41.1 ∧ x41.1 ≤ (↑a.3 : Int)) ∧ ∃
(x42 : List Int), LC x41.5 x42 ∧ (↑(List.length x42) : Int) = x41.4 ∧ wsC xs (Int.toNat (q2C xs).3) (q2C xs).1 (q2C xs).2 = LW.mk (wsC xs (Int.toNat (x41.3 - x41.4)) x41.1 x41.2).1
(wsC xs (Int.toNat (x41.3 - x41.4)) x41.1 x41.2).2 (x42 ++ (wsC xs (Int.toNat (x41.3 - x41.4)) x41.1 x41.2).3)) ∧ Int.toNat (x41.3 - x41.4) < Int.toNat (x25.3 - x25.4) ∧ ((0 : Nat)
= (0 : Nat) ∧ (0 : Nat) = (0 : Nat) ∧ (0 : Nat) = (0 : Nat) ∧ x41.3 = x25.3 ∧ x41.4 = x40 ∧ True) ∧ ((True ∧ FlatL a.5 ∧ a.5 = a.5) ∧ (True ∧ Bool.false = Bool.false ∧ (x41.5.1 =
Bool.false ∧ (0 : Nat) = (0 : Nat) ∧ x41.5.2 = x38 ∧ x41.5.3 = x39) ∧ (0 : Int) = (0 : Int) ∧ (0 : Int) = (0 : Int) ∧ (0 : Int) = (0 : Int) ∧ (0 : Int) = (0 : Int) ∧ (0 : Int) = (0
: Int) ∧ (0 : Int) = (0 : Int) ∧ (0 : Int) = (0 : Int) ∧ (0 : Int) = (0 : Int) ∧ True) ∧ (True ∧ (a.1 = a.1 ∧ a.2 = a.2 ∧ a.3 = a.3 ∧ a.4 = a.4) ∧ x41.1 = x28.1 ∧ x41.2 = x28.2 ∧
True) ∧ (x41.5.3 = x39 ∧ FlatL x41.5.4 ∧ x41.5.4 = x25.5.4 ++ x37) ∧ (True ∧ Bool.false = Bool.false ∧ ((0 : Nat) = (0 : Nat) ∧ (0 : Nat) = (0 : Nat)) ∧ (0 : Int) = (0 : Int) ∧ (0
: Int) = (0 : Int) ∧ (0 : Int) = (0 : Int) ∧ (0 : Int) = (0 : Int) ∧ (0 : Int) = (0 : Int) ∧ (0 : Int) = (0 : Int) ∧ (0 : Int) = (0 : Int) ∧ (0 : Int) = (0 : Int) ∧ True) ∧ True) ∧
True)) ∧ True) ∧ (¬x25.2 = (0 : Int) → ∃ (x43 : WL), (((0 : Int) ≤ x43.1 ∧ x43.1 ≤ (↑a.3 : Int)) ∧ LC x43.5 (wsC xs (Int.toNat (q2C xs).3) (q2C xs).1 (q2C xs).2).3 ∧ x43.1 = (wsC
xs (Int.toNat (q2C xs).3) (q2C xs).1 (q2C xs).2).1 ∧ x43.2 = (wsC xs (Int.toNat (q2C xs).3) (q2C xs).1 (q2C xs).2).2) ∧ ((0 : Nat) = (0 : Nat) ∧ (0 : Nat) = (0 : Nat) ∧ (0 : Nat) =
(0 : Nat) ∧ True) ∧ ((True ∧ FlatL a.5 ∧ a.5 = a.5) ∧ (True ∧ Bool.false = Bool.false ∧ (x43.5.1 = x25.5.1 ∧ (0 : Nat) = (0 : Nat) ∧ x43.5.2 = x25.5.2 ∧ x43.5.3 = x25.5.3) ∧ (0 :
Int) = (0 : Int) ∧ (0 : Int) = (0 : Int) ∧ (0 : Int) = (0 : Int) ∧ (0 : Int) = (0 : Int) ∧ (0 : Int) = (0 : Int) ∧ (0 : Int) = (0 : Int) ∧ (0 : Int) = (0 : Int) ∧ (0 : Int) = (0 :
Int) ∧ True) ∧ (True ∧ (a.1 = a.1 ∧ a.2 = a.2 ∧ a.3 = a.3 ∧ a.4 = a.4) ∧ x43.1 = x25.1 ∧ x43.2 = x25.2 ∧ True) ∧ (x43.5.3 = x25.5.3 ∧ FlatL x43.5.4 ∧ x43.5.4 = x25.5.4) ∧ (True ∧
Bool.false = Bool.false ∧ ((0 : Nat) = (0 : Nat) ∧ (0 : Nat) = (0 : Nat)) ∧ (0 : Int) = (0 : Int) ∧ (0 : Int) = (0 : Int) ∧ (0 : Int) = (0 : Int) ∧ (0 : Int) = (0 : Int) ∧ (0 :
Int) = (0 : Int) ∧ (0 : Int) = (0 : Int) ∧ (0 : Int) = (0 : Int) ∧ (0 : Int) = (0 : Int) ∧ True) ∧ True) ∧ True)) ∧ (¬x25.4 < x25.3 → ∃ (x44 : WL), (((0 : Int) ≤ x44.1 ∧ x44.1 ≤
(↑a.3 : Int)) ∧ LC x44.5 (wsC xs (Int.toNat (q2C xs).3) (q2C xs).1 (q2C xs).2).3 ∧ x44.1 = (wsC xs (Int.toNat (q2C xs).3) (q2C xs).1 (q2C xs).2).1 ∧ x44.2 = (wsC xs (Int.toNat (q2C
xs).3) (q2C xs).1 (q2C xs).2).2) ∧ ((0 : Nat) = (0 : Nat) ∧ (0 : Nat) = (0 : Nat) ∧ (0 : Nat) = (0 : Nat) ∧ True) ∧ ((True ∧ FlatL a.5 ∧ a.5 = a.5) ∧ (True ∧ Bool.false =
Bool.false ∧ (x44.5.1 = x25.5.1 ∧ (0 : Nat) = (0 : Nat) ∧ x44.5.2 = x25.5.2 ∧ x44.5.3 = x25.5.3) ∧ (0 : Int) = (0 : Int) ∧ (0 : Int) = (0 : Int) ∧ (0 : Int) = (0 : Int) ∧ (0 : Int)
= (0 : Int) ∧ (0 : Int) = (0 : Int) ∧ (0 : Int) = (0 : Int) ∧ (0 : Int) = (0 : Int) ∧ (0 : Int) = (0 : Int) ∧ True) ∧ (True ∧ (a.1 = a.1 ∧ a.2 = a.2 ∧ a.3 = a.3 ∧ a.4 = a.4) ∧
x44.1 = x25.1 ∧ x44.2 = x25.2 ∧ True) ∧ (x44.5.3 = x25.5.3 ∧ FlatL x44.5.4 ∧ x44.5.4 = x25.5.4) ∧ (True ∧ Bool.false = Bool.false ∧ ((0 : Nat) = (0 : Nat) ∧ (0 : Nat) = (0 : Nat))
∧ (0 : Int) = (0 : Int) ∧ (0 : Int) = (0 : Int) ∧ (0 : Int) = (0 : Int) ∧ (0 : Int) = (0 : Int) ∧ (0 : Int) = (0 : Int) ∧ (0 : Int) = (0 : Int) ∧ (0 : Int) = (0 : Int) ∧ (0 : Int)
= (0 : Int) ∧ True) ∧ True) ∧ True)) ∧ ∀ (x45 : WL), ((0 : Int) ≤ x45.1 ∧ x45.1 ≤ (↑a.3 : Int)) ∧ LC x45.5 (wsC xs (Int.toNat (q2C xs).3) (q2C xs).1 (q2C xs).2).3 ∧ x45.1 = (wsC xs
(Int.toNat (q2C xs).3) (q2C xs).1 (q2C xs).2).1 ∧ x45.2 = (wsC xs (Int.toNat (q2C xs).3) (q2C xs).1 (q2C xs).2).2 → (x45.2 = (0 : Int) → ∀ (x46 : Int), x46 = (↑a.3 : Int) → (x45.1
< x46 → ∃ (x47 : EE), (x47.1 ≠ (0 : Int) ∧ ∀ (x48 : List Int), Sli (Value.int IntKind.u8) (1 : Nat) a.1 a.2 a.3 a.4 a.5 x48 → (decM x48).1 = x47.1) ∧ ((Bool.false = Bool.false ∧
((0 : Nat) = (0 : Nat) ∧ (0 : Nat) = (0 : Nat)) ∧ (0 : Int) = (0 : Int) ∧ (0 : Int) = (0 : Int) ∧ (0 : Int) = (0 : Int) ∧ (0 : Int) = (0 : Int) ∧ (0 : Int) = (0 : Int) ∧ (0 : Int)
= (0 : Int) ∧ (0 : Int) = (0 : Int) ∧ (0 : Int) = (0 : Int) ∧ True) ∧ x47.1 = (5 : Int) ∧ True) ∧ True) ∧ (¬x45.1 < x46 → (x45.2 ≠ (0 : Int) → ∃ (x49 : EE), (x49.1 ≠ (0 : Int) ∧ ∀
(x50 : List Int), Sli (Value.int IntKind.u8) (1 : Nat) a.1 a.2 a.3 a.4 a.5 x50 → (decM x50).1 = x49.1) ∧ ((Bool.false = Bool.false ∧ ((0 : Nat) = (0 : Nat) ∧ (0 : Nat) = (0 : Nat))
∧ (0 : Int) = (0 : Int) ∧ (0 : Int) = (0 : Int) ∧ (0 : Int) = (0 : Int) ∧ (0 : Int) = (0 : Int) ∧ (0 : Int) = (0 : Int) ∧ (0 : Int) = (0 : Int) ∧ (0 : Int) = (0 : Int) ∧ (0 : Int)
= (0 : Int) ∧ True) ∧ x49.1 = x45.2 ∧ True) ∧ True) ∧ (¬x45.2 ≠ (0 : Int) → ∃ (x51 : MR), (∀ (x52 : List Int), Sli (Value.int IntKind.u8) (1 : Nat) a.1 a.2 a.3 a.4 a.5 x52 → ∃ (x53
: List Int), LC x51.2 x53 ∧ decM x52 = DM.mk (0 : Int) x51.1 x53 x51.3) ∧ ((x51.1 = Bool.false ∧ (x51.2.1 = x45.5.1 ∧ (0 : Nat) = (0 : Nat) ∧ x51.2.2 = x45.5.2 ∧ x51.2.3 = x45.5.3)
∧ x51.3.1 = (0 : Int) ∧ x51.3.2 = (0 : Int) ∧ x51.3.3 = (0 : Int) ∧ x51.3.4 = (0 : Int) ∧ x51.3.5 = (0 : Int) ∧ x51.3.6 = (0 : Int) ∧ x51.3.7 = (0 : Int) ∧ x51.3.8 = (0 : Int) ∧
True) ∧ (0 : Int) = (0 : Int) ∧ True) ∧ (x51.2.3 = x45.5.3 ∧ FlatL x51.2.4 ∧ x51.2.4 = x45.5.4) ∧ True))) ∧ (¬x45.2 = (0 : Int) → (x45.2 ≠ (0 : Int) → ∃ (x54 : EE), (x54.1 ≠ (0 :
Int) ∧ ∀ (x55 : List Int), Sli (Value.int IntKind.u8) (1 : Nat) a.1 a.2 a.3 a.4 a.5 x55 → (decM x55).1 = x54.1) ∧ ((Bool.false = Bool.false ∧ ((0 : Nat) = (0 : Nat) ∧ (0 : Nat) =
(0 : Nat)) ∧ (0 : Int) = (0 : Int) ∧ (0 : Int) = (0 : Int) ∧ (0 : Int) = (0 : Int) ∧ (0 : Int) = (0 : Int) ∧ (0 : Int) = (0 : Int) ∧ (0 : Int) = (0 : Int) ∧ (0 : Int) = (0 : Int) ∧
(0 : Int) = (0 : Int) ∧ True) ∧ x54.1 = x45.2 ∧ True) ∧ True) ∧ (¬x45.2 ≠ (0 : Int) → ∃ (x56 : MR), (∀ (x57 : List Int), Sli (Value.int IntKind.u8) (1 : Nat) a.1 a.2 a.3 a.4 a.5
x57 → ∃ (x58 : List Int), LC x56.2 x58 ∧ decM x57 = DM.mk (0 : Int) x56.1 x58 x56.3) ∧ ((x56.1 = Bool.false ∧ (x56.2.1 = x45.5.1 ∧ (0 : Nat) = (0 : Nat) ∧ x56.2.2 = x45.5.2 ∧
x56.2.3 = x45.5.3) ∧ x56.3.1 = (0 : Int) ∧ x56.3.2 = (0 : Int) ∧ x56.3.3 = (0 : Int) ∧ x56.3.4 = (0 : Int) ∧ x56.3.5 = (0 : Int) ∧ x56.3.6 = (0 : Int) ∧ x56.3.7 = (0 : Int) ∧
x56.3.8 = (0 : Int) ∧ True) ∧ (0 : Int) = (0 : Int) ∧ True) ∧ (x56.2.3 = x45.5.3 ∧ FlatL x56.2.4 ∧ x56.2.4 = x45.5.4) ∧ True))) ∧ True)) ∧ True) := by kernel_rfl
theorem vc_sameM (a : M2) : G_sameM a = ((True ∧ (∃ (x0 : List Int), MH (MA.mk a.1.1 (SA.mk a.1.2.1 a.1.2.2 a.1.2.3 a.1.2.4 a.1.2.5) (D8.mk a.1.3.1 a.1.3.2 a.1.3.3 a.1.3.4 a.1.3.5 a.1.3.6 a.1.3.7 a.1.3.8)) x0) ∧ a.1.2.3 ≤
(100 : Nat)) ∧ (((a.1.1 = a.1.1 ∧ (a.1.2.1 = a.1.2.1 ∧ a.1.2.2 = a.1.2.2 ∧ a.1.2.3 = a.1.2.3 ∧ a.1.2.4 = a.1.2.4) ∧ a.1.3.1 = a.1.3.1 ∧ a.1.3.2 = a.1.3.2 ∧ a.1.3.3 = a.1.3.3 ∧
a.1.3.4 = a.1.3.4 ∧ a.1.3.5 = a.1.3.5 ∧ a.1.3.6 = a.1.3.6 ∧ a.1.3.7 = a.1.3.7 ∧ a.1.3.8 = a.1.3.8 ∧ True) ∧ True) ∧ (True ∧ FlatL a.1.2.5 ∧ a.1.2.5 = a.1.2.5) ∧ True) ∧ (∀ (x1 :
OW), (x1.2 ≤ (3000 : Nat) ∧ ∀ (x2 : List Int), MH (MA.mk a.1.1 (SA.mk a.1.2.1 a.1.2.2 a.1.2.3 a.1.2.4 a.1.2.5) (D8.mk a.1.3.1 a.1.3.2 a.1.3.3 a.1.3.4 a.1.3.5 a.1.3.6 a.1.3.7
a.1.3.8)) x2 → OwB x1 (encM a.1.1 x2 (D8.mk a.1.3.1 a.1.3.2 a.1.3.3 a.1.3.4 a.1.3.5 a.1.3.6 a.1.3.7 a.1.3.8))) → (True ∧ (∃ (x3 : List Int), MH (MA.mk a.2.1 (SA.mk a.2.2.1 a.2.2.2
a.2.2.3 a.2.2.4 a.2.2.5) (D8.mk a.2.3.1 a.2.3.2 a.2.3.3 a.2.3.4 a.2.3.5 a.2.3.6 a.2.3.7 a.2.3.8)) x3) ∧ a.2.2.3 ≤ (100 : Nat)) ∧ (((a.2.1 = a.2.1 ∧ (a.2.2.1 = a.2.2.1 ∧ a.2.2.2 =
a.2.2.2 ∧ a.2.2.3 = a.2.2.3 ∧ a.2.2.4 = a.2.2.4) ∧ a.2.3.1 = a.2.3.1 ∧ a.2.3.2 = a.2.3.2 ∧ a.2.3.3 = a.2.3.3 ∧ a.2.3.4 = a.2.3.4 ∧ a.2.3.5 = a.2.3.5 ∧ a.2.3.6 = a.2.3.6 ∧ a.2.3.7 =
a.2.3.7 ∧ a.2.3.8 = a.2.3.8 ∧ True) ∧ True) ∧ (True ∧ FlatL a.2.2.5 ∧ a.2.2.5 = a.2.2.5) ∧ True) ∧ (∀ (x4 : OW), (x4.2 ≤ (3000 : Nat) ∧ ∀ (x5 : List Int), MH (MA.mk a.2.1 (SA.mk
a.2.2.1 a.2.2.2 a.2.2.3 a.2.2.4 a.2.2.5) (D8.mk a.2.3.1 a.2.3.2 a.2.3.3 a.2.3.4 a.2.3.5 a.2.3.6 a.2.3.7 a.2.3.8)) x5 → OwB x4 (encM a.2.1 x5 (D8.mk a.2.3.1 a.2.3.2 a.2.3.3 a.2.3.4
a.2.3.5 a.2.3.6 a.2.3.7 a.2.3.8))) → (0 : Nat) + x1.1 ≤ List.length x1.3 ∧ ∃ (x6 : List UInt8), (List.length x6 = x1.1 ∧ ∀ (x7 : Nat) (x8 : UInt8), W_G_sameM_0 x6 x7 = W_G_sameM_1
x8 → Rd x1.3 ((0 : Nat) + x7) (Value.int IntKind.u8 (↑(UInt8.toNat x8) : Int))) ∧ (0 : Nat) + x4.1 ≤ List.length x4.3 ∧ ∃ (x9 : List UInt8), (List.length x9 = x4.1 ∧ ∀ (x10 : Nat)
(x11 : UInt8), W_G_sameM_0 x9 x10 = W_G_sameM_1 x11 → Rd x4.3 ((0 : Nat) + x10) (Value.int IntKind.u8 (↑(UInt8.toNat x11) : Int))) ∧ (Array.toList (ByteArray.data (ByteArray.mk
(Array.mk x6))) = Array.toList (ByteArray.data (ByteArray.mk (Array.mk x9))) → (True ∧ True ∧ (W_G_sameM_2 a = W_G_sameM_2 a ∧ True) ∧ True ∧ True ∧ True ∧ True) ∧ ∃ (x12 : BL), (∀
(x13 x14 : List Int), MH a.1 x13 → MH a.2 x14 → (x12.1 = Bool.true ↔ encM a.1.1 x13 a.1.3 = encM a.2.1 x14 a.2.3)) ∧ x12.1 = Bool.true ∧ True) ∧ (¬Array.toList (ByteArray.data
(ByteArray.mk (Array.mk x6))) = Array.toList (ByteArray.data (ByteArray.mk (Array.mk x9))) → (True ∧ True ∧ (W_G_sameM_2 a = W_G_sameM_2 a ∧ True) ∧ True ∧ True ∧ True ∧ True) ∧ ∃
(x15 : BL), (∀ (x16 x17 : List Int), MH a.1 x16 → MH a.2 x17 → (x15.1 = Bool.true ↔ encM a.1.1 x16 a.1.3 = encM a.2.1 x17 a.2.3)) ∧ x15.1 = Bool.false ∧ True)) ∧ True) ∧ True) := by kernel_rfl
theorem wrap_i32' (x : Int) : IntKind.wrap .i32 x = (x + 2147483648) % 4294967296 - 2147483648 := wrap_i32 x
theorem wdC_bad {bs : List Int} {p e : Int} (h : (rdC bs p e 18446744073709551615).e = 0 ∧ (unfI (rdC bs p e 18446744073709551615).n < -2147483648 ∨ 2147483647 < unfI (rdC bs p e 18446744073709551615).n)) : wdC bs p e = ⟨p, 2, 0⟩ := by unfold wdC; rw [if_pos h]
theorem wdC_ok {bs : List Int} {p e : Int} (h : ¬ ((rdC bs p e 18446744073709551615).e = 0 ∧ (unfI (rdC bs p e 18446744073709551615).n < -2147483648 ∨ 2147483647 < unfI (rdC bs p e 18446744073709551615).n))) :
    wdC bs p e = ⟨(rdC bs p e 18446744073709551615).at_, (rdC bs p e 18446744073709551615).e, IntKind.wrap .i32 (unfI (rdC bs p e 18446744073709551615).n)⟩ := by unfold wdC; rw [if_neg h]
theorem RI.with {a : RA} {xs : List Int} (h : RI a xs) {p e m : Int} (h0 : 0 ≤ p) (h1 : p ≤ a.s.l) (m0 : 0 ≤ m) (m1 : m < 18446744073709551616) : RI ⟨a.s, p, e, m⟩ xs := ⟨h.sl, h.by_, h0, h1, m0, m1⟩
theorem g_word1 (a : RA) (xs : List Int) (h : RI a xs) (hl : a.s.l ≤ 1000000) : G_word1 a := by
  have fl := h.sl.flat
  have hri : RI ⟨a.s, a.at_, a.e, 18446744073709551615⟩ xs := h.with h.at0 h.at1 (by decide) (by decide)
  have q : ∀ {w : WR}, wdC xs a.at_ a.e = w → ∀ ys : List Int, RI a ys → w = wdC ys a.at_ a.e := fun e ys hy => by rw [hy.uniq h]; exact e.symm
  rw [vc_word1]
  refine ⟨⟨trivial, ⟨xs, hri⟩, hl⟩, ⟨⟨⟨⟨rfl, rfl, rfl, rfl⟩, rfl, rfl, trivial⟩, rfl, trivial⟩, ⟨trivial, fl, rfl⟩, trivial⟩, fun r hr => ?_, trivial⟩
  have hr : r = rdC xs a.at_ a.e 18446744073709551615 := hr xs hri
  obtain ⟨i1, i2, _, _⟩ := rdC_in (e := a.e) h.by_ h.at0 (by rw [h.len]; exact h.at1) (show (0 : Int) ≤ 18446744073709551615 by decide)
  rw [← hr] at i1 i2
  refine ⟨⟨trivial, ⟨i1, by omega⟩, trivial⟩, ⟨⟨rfl, trivial⟩, trivial⟩, fun _ _ => ⟨fun he => ⟨fun h1 => ⟨_, q (wdC_bad (by rw [← hr]; exact ⟨he, .inl h1⟩)), ⟨⟨⟨rfl, rfl, rfl, rfl⟩, rfl, rfl, trivial⟩, rfl, trivial⟩, trivial⟩, fun h1 => ⟨fun h2 => ⟨_, q (wdC_bad (by rw [← hr]; exact ⟨he, .inr h2⟩)), ⟨⟨⟨rfl, rfl, rfl, rfl⟩, rfl, rfl, trivial⟩, rfl, trivial⟩, trivial⟩, fun h2 x8 e8 => ?_⟩⟩, fun he x11 e11 => ?_⟩, trivial⟩
  · exact ⟨_, q (wdC_ok (by rw [← hr]; rintro ⟨_, h | h⟩; exact h1 h; exact h2 h)), ⟨⟨⟨rfl, rfl, rfl, rfl⟩, by rw [← hr], by rw [← hr], trivial⟩, by rw [← hr]; exact e8.symm, trivial⟩, trivial⟩
  · exact ⟨_, q (wdC_ok (by rw [← hr]; rintro ⟨h, _⟩; exact he h)), ⟨⟨⟨rfl, rfl, rfl, rfl⟩, by rw [← hr], by rw [← hr], trivial⟩, by rw [← hr]; exact e11.symm, trivial⟩, trivial⟩
theorem s_word1 : SpecOK Tryz.prog S_word1.spec := fun a K hp hq => by
  obtain ⟨⟨xs, h⟩, hl⟩ := hp
  exact specD_at (an := []) envOK (cwN_ok (fun _ h => cwD_ok s_read1 (cwD_ok s_unf1 h)) 2) (fun _ => g_word1 a xs h hl) K ⟨⟨xs, h⟩, hl⟩ hq
theorem wsC_ne (bs : List Int) (n : Nat) (p : Int) {e : Int} (h : e ≠ 0) : wsC bs n p e = ⟨p, e, []⟩ := by
  cases n with
  | zero => rfl
  | succ n => unfold wsC; rw [if_pos h]
theorem wsC_succ (bs : List Int) (n : Nat) (p : Int) : wsC bs (n + 1) p 0 = ⟨(wsC bs n (wdC bs p 0).at_ (wdC bs p 0).e).at_, (wsC bs n (wdC bs p 0).at_ (wdC bs p 0).e).e, (wdC bs p 0).w :: (wsC bs n (wdC bs p 0).at_ (wdC bs p 0).e).ws⟩ := by
  rw [wsC, if_neg (by simp)]
theorem rdC_err {bs : List Int} {p e m : Int} (h : (rdC bs p e m).e ≠ 0) : (rdC bs p e m).n = 0 := by
  by_cases h1 : e ≠ 0
  · rw [rdC_ne h1]
  by_cases h2 : (lookN (bs.drop p.toNat)).e ≠ 0
  · rw [rdC_bad h1 h2]
  by_cases h3 : m < (lookN (bs.drop p.toNat)).n
  · rw [rdC_big h1 h2 h3]
  · rw [rdC_ok h1 h2 h3] at h; exact absurd rfl h
theorem unf0 : unfI 0 = 0 := by decide
/-- A number more, read by the program. -/
theorem ws_step {bs ys : List Int} {T : LW} {p e n i z x : Int} {r : RR} (h1 : e = 0 → T = ⟨(wsC bs (n - i).toNat p 0).at_, (wsC bs (n - i).toNat p 0).e, ys ++ (wsC bs (n - i).toNat p 0).ws⟩) (h2 : e ≠ 0 → T.e = e) (hlt : i < n) (hr : r = rdC bs p e 18446744073709551615)
    (lo : ¬ unfI r.n < -2147483648) (hi : ¬ 2147483647 < unfI r.n) (hx : x = IntKind.wrap .i32 (unfI r.n)) (hz : z = i + 1) :
    (r.e = 0 → T = ⟨(wsC bs (n - z).toNat r.at_ 0).at_, (wsC bs (n - z).toNat r.at_ 0).e, (ys ++ [x]) ++ (wsC bs (n - z).toNat r.at_ 0).ws⟩) ∧ (r.e ≠ 0 → T.e = r.e) := by
  by_cases he : e = 0
  · subst he
    have hT := h1 rfl
    have hw : wdC bs p 0 = ⟨r.at_, r.e, x⟩ := by
      rw [wdC_ok (by rw [← hr]; rintro ⟨_, h | h⟩; exact lo h; exact hi h), ← hr, hx]
    rw [show (n - i).toNat = (n - z).toNat + 1 by omega, wsC_succ, hw] at hT
    refine ⟨fun h0 => ?_, fun h0 => ?_⟩
    · rw [hT, h0]; simp
    · rw [hT]
      show (wsC bs (n - z).toNat r.at_ r.e).e = r.e
      rw [wsC_ne _ _ _ h0]
  · have hre : r.e = e := by rw [hr, rdC_ne he]
    exact ⟨fun h0 => absurd (hre.symm.trans h0) he, fun _ => by rw [hre]; exact h2 he⟩
theorem ws_bad {bs ys : List Int} {T : LW} {p e n i : Int} {r : RR} (h1 : e = 0 → T = ⟨(wsC bs (n - i).toNat p 0).at_, (wsC bs (n - i).toNat p 0).e, ys ++ (wsC bs (n - i).toNat p 0).ws⟩) (hlt : i < n) (hr : r = rdC bs p e 18446744073709551615) (hb : unfI r.n < -2147483648 ∨ 2147483647 < unfI r.n) : T.e = 2 := by
  have hn : r.n ≠ 0 := fun h => by rw [h, unf0] at hb; omega
  have hre : r.e = 0 := Decidable.byContradiction fun h => hn (by rw [hr]; exact rdC_err (by rw [← hr]; exact h))
  have he : e = 0 := Decidable.byContradiction fun h => hn (by rw [hr, rdC_ne h])
  subst he
  have hw : wdC bs p 0 = ⟨p, 2, 0⟩ := wdC_bad (by rw [← hr]; exact ⟨hre, hb⟩)
  rw [h1 rfl, show (n - i).toNat = (n - (i + 1)).toNat + 1 by omega, wsC_succ, hw]
  show (wsC bs _ p 2).e = 2
  rw [wsC_ne _ _ _ (by decide)]
theorem LC.none : LC ⟨true, 0, 0, []⟩ [] := ⟨.nil, rfl, Nat.le_refl _, fun _ => ⟨rfl, rfl⟩⟩
theorem LC.one (x : Int) : LC ⟨false, 1, 1, [tgI .i32 x]⟩ [x] := ⟨.one, rfl, Nat.le_refl _, fun h => by cases h⟩
theorem LC.snoc {s : SN} {ys : List Int} (h : LC s ys) (x : Int) {n k : Nat} (hn : n = s.l + 1) (hk : k = if n ≤ s.k then s.k else n) : LC ⟨false, n, k, s.c ++ [tgI .i32 x]⟩ (ys ++ [x]) :=
  ⟨h.he.snoc, by have := h.l; simp; omega, by show n ≤ k; rw [hk]; split <;> omega, fun h => by cases h⟩
theorem LC.flat {s : SN} {ys : List Int} (h : LC s ys) : FlatL s.c := h.he.flat
theorem LC.sli {s : SN} {ys : List Int} (h : LC s ys) : Sli (Value.int .i32) 1 s.n 0 s.l s.k s.c ys := ⟨h.he.at_, by have := h.l; omega, fun hn => ⟨by have := (h.nil hn).1; have := h.l; subst ys; simpa using this, (h.nil hn).2⟩, fun _ => by have := h.he.len; have := h.l; omega, h.le, h.flat⟩
theorem g_words (a : RA) (xs : List Int) (h : RI a xs) (hn : a.s.n = false) (ho : a.s.o = 0) (hl : a.s.l ≤ 1000000) (hm : a.m ≤ 1000) : G_words a xs := by
  have fl := h.sl.flat
  have hsa : (⟨false, 0, a.s.l, a.s.k, a.s.c⟩ : SA) = a.s := by
    obtain ⟨⟨n, o, l, k, c⟩, p, e, m⟩ := a
    dsimp only at hn ho ⊢
    rw [hn, ho]
  have hlen := h.len
  rw [vc_words, hsa]
  refine ⟨⟨trivial, ⟨xs, h⟩, ⟨rfl, rfl⟩, hl⟩, ⟨⟨rfl, rfl, trivial⟩, ⟨trivial, ⟨rfl, rfl, rfl⟩, rfl, rfl, trivial⟩, ⟨trivial, fl, rfl⟩, trivial⟩, fun q hq => ?_, trivial⟩
  have hq : q = rdC xs a.at_ a.e a.m := hq xs h
  obtain ⟨i1, i2, i3, i4⟩ := rdC_in (e := a.e) h.by_ h.at0 (by rw [hlen]; exact h.at1) h.m0
  rw [← hq] at i1 i2 i3 i4 ⊢
  have hout : ∀ {w : WS}, (w.e = (wsC xs q.n.toNat q.at_ q.e).e ∧ (w.e = 0 → w.re = 0 ∧ w.at_ = (wsC xs q.n.toNat q.at_ q.e).at_ ∧ LC w.s (wsC xs q.n.toNat q.at_ q.e).ws)) → ∀ ys : List Int, RI a ys → w.e = (wsC ys (rdC ys a.at_ a.e a.m).n.toNat (rdC ys a.at_ a.e a.m).at_ (rdC ys a.at_ a.e a.m).e).e ∧ (w.e = 0 → w.re = 0 ∧ w.at_ = (wsC ys (rdC ys a.at_ a.e a.m).n.toNat (rdC ys a.at_ a.e a.m).at_ (rdC ys a.at_ a.e a.m).e).at_ ∧ LC w.s (wsC ys (rdC ys a.at_ a.e a.m).n.toNat (rdC ys a.at_ a.e a.m).at_ (rdC ys a.at_ a.e a.m).e).ws) := fun hw ys hy => by
    rw [hy.uniq h, ← hq]; exact hw
  generalize hT : wsC xs q.n.toNat q.at_ q.e = T at hout ⊢
  refine ⟨⟨q.at_, q.e, q.n, 0, ⟨true, 0, 0, []⟩⟩, ⟨⟨⟨by show (0 : Int) ≤ 0; decide, i1⟩, rfl, i3, by rw [← hlen]; exact i4⟩, [], .none, rfl, fun h0 => ?_, fun h0 => ?_⟩, ⟨⟨rfl, ⟨rfl, rfl, rfl⟩, rfl, rfl, trivial⟩, ⟨⟨trivial, ⟨rfl, rfl, rfl⟩, rfl, rfl, trivial⟩, ⟨trivial, fl, rfl⟩, ⟨flatL_nil, trivial⟩, trivial⟩, trivial⟩, ?_⟩
  · have h0 : q.e = 0 := h0
    show T = ⟨(wsC xs (q.n - 0).toNat q.at_ 0).at_, (wsC xs (q.n - 0).toNat q.at_ 0).e, [] ++ (wsC xs (q.n - 0).toNat q.at_ 0).ws⟩
    rw [Int.sub_zero, ← hT, h0]; rfl
  · rw [← hT]
    show (wsC xs q.n.toNat q.at_ q.e).e = q.e
    rw [wsC_ne _ _ _ h0]
  rintro ⟨p, e, n, i, s⟩ ⟨⟨⟨hi0, hi1⟩, hnn, hp0, hp1⟩, ys, hs, hyl, hJ1, hJ2⟩
  dsimp only at hi0 hi1 hnn hp0 hp1 hs hyl hJ1 hJ2 ⊢
  refine ⟨fun hlt => ?_, fun hge => ?_⟩
  · refine ⟨⟨trivial, ⟨xs, h.with hp0 hp1 (by decide) (by decide)⟩, ⟨rfl, rfl, rfl⟩, hl⟩, ⟨⟨rfl, trivial⟩, ⟨trivial, ⟨rfl, rfl, rfl⟩, rfl, rfl, trivial⟩, ⟨trivial, fl, rfl⟩, trivial⟩, fun r hr => ?_, trivial⟩
    have hr : r = rdC xs p e 18446744073709551615 := hr xs (h.with hp0 hp1 (by decide) (by decide))
    obtain ⟨j1, j2, j3, j4⟩ := rdC_in (e := e) h.by_ hp0 (by omega) (show (0 : Int) ≤ 18446744073709551615 by decide)
    rw [← hr] at j1 j2 j3 j4
    have bad : (unfI r.n < -2147483648 ∨ 2147483647 < unfI r.n) → T.e = 2 := fun hb => ws_bad hJ1 hlt hr hb
    refine ⟨fun hb => ⟨⟨r.at_, r.e, 2, ⟨true, 0, 0, []⟩⟩, hout ⟨(bad (.inl hb)).symm, fun h => absurd h (by show ¬ (2 : Int) = 0; decide)⟩, ⟨⟨rfl, rfl, rfl⟩, rfl, trivial⟩, ⟨trivial, ⟨rfl, rfl, rfl⟩, rfl, rfl, trivial⟩, ⟨trivial, fl, rfl⟩, ⟨flatL_nil, trivial⟩, trivial⟩, fun lo => ⟨fun hb => ⟨⟨r.at_, r.e, 2, ⟨true, 0, 0, []⟩⟩, hout ⟨(bad (.inr hb)).symm, fun h => absurd h (by show ¬ (2 : Int) = 0; decide)⟩, ⟨⟨rfl, rfl, rfl⟩, rfl, trivial⟩, ⟨trivial, ⟨rfl, rfl, rfl⟩, rfl, rfl, trivial⟩, ⟨trivial, fl, rfl⟩, ⟨flatL_nil, trivial⟩, trivial⟩, fun hi x hx => ⟨fun hsn => ⟨by simp, fun vs hvs => ⟨fun h => absurd h (by decide), fun _ => ⟨by unfold Few; omega, fun z hz => ?_⟩⟩⟩, fun hsn => ⟨by simp, fun vs hvs => ⟨⟨rfl, by have := hs.he.len; have := hs.l; omega, rfl, hs.le, by unfold Few; have := hs.l; omega, by rw [hvs, lwin_one]; exact oneK_one _ _⟩, fun l' k' hl' hk' z hz => ?_⟩⟩⟩⟩⟩
    · rw [wrap_u64] at hz
      obtain ⟨k1, k2⟩ := ws_step (z := z) hJ1 hJ2 hlt hr lo hi hx (by omega)
      obtain ⟨rfl, _⟩ := hs.nil hsn
      rw [lwin_one] at hvs
      subst hvs
      exact ⟨⟨r.at_, r.e, n, z, ⟨false, 1, 1, _⟩⟩, ⟨⟨⟨by show 0 ≤ z; omega, by show z ≤ n; omega⟩, hnn, j3, by show r.at_ ≤ _; omega⟩, [x], .one x, by show ((1 : Nat) : Int) = z; simp at hyl; omega, k1, k2⟩, by show (n - z).toNat < (n - i).toNat; omega, ⟨rfl, ⟨rfl, rfl, rfl, rfl⟩, rfl, rfl, trivial⟩, ⟨⟨trivial, ⟨rfl, rfl, rfl⟩, rfl, rfl, trivial⟩, ⟨trivial, fl, rfl⟩, ⟨rfl, (LC.one x).flat, rfl⟩, trivial⟩, trivial⟩
    · rw [wrap_u64] at hz
      obtain ⟨k1, k2⟩ := ws_step (z := z) hJ1 hJ2 hlt hr lo hi hx (by omega)
      rw [lwin_one] at hvs
      subst hvs
      have hls := hs.snoc x hl' hk'
      exact ⟨⟨r.at_, r.e, n, z, ⟨false, l', k', _⟩⟩, ⟨⟨⟨by show 0 ≤ z; omega, by show z ≤ n; omega⟩, hnn, j3, by show r.at_ ≤ _; omega⟩, ys ++ [x], hls, by show (((ys ++ [x]).length : Nat) : Int) = z; simp; omega, k1, k2⟩, by show (n - z).toNat < (n - i).toNat; omega, ⟨rfl, ⟨rfl, rfl, rfl, rfl⟩, rfl, rfl, trivial⟩, ⟨⟨trivial, ⟨rfl, rfl, rfl⟩, rfl, rfl, trivial⟩, ⟨trivial, fl, rfl⟩, ⟨rfl, hls.flat, rfl⟩, trivial⟩, trivial⟩
  · have hin : (n - i).toNat = 0 := by omega
    refine ⟨⟨p, e, e, s⟩, hout ⟨?_, fun he => ?_⟩, ⟨⟨rfl, rfl, rfl, rfl⟩, rfl, trivial⟩, ⟨trivial, ⟨rfl, rfl, rfl⟩, rfl, rfl, trivial⟩, ⟨trivial, fl, rfl⟩, ⟨rfl, hs.flat, rfl⟩, trivial⟩
    · show e = T.e
      by_cases he : e = 0
      · rw [hJ1 he, hin, he]; rfl
      · exact (hJ2 he).symm
    · have he : e = 0 := he
      have := hJ1 he
      rw [hin] at this
      rw [this]
      exact ⟨he, rfl, by show LC s (ys ++ []); rw [List.append_nil]; exact hs⟩
theorem s_words : SpecOK Tryz.prog S_words.spec := fun a K hp hq => by
  obtain ⟨⟨xs, h⟩, ⟨hn, ho⟩, hl, hm⟩ := hp
  exact specD_at (an := [some (la_words a xs)]) envOK (cwN_ok (fun _ h => cwD_ok s_rnum (cwD_ok s_rint h)) 2) (fun _ => g_words a xs h hn ho hl hm) K ⟨⟨xs, h⟩, ⟨hn, ho⟩, hl, hm⟩ hq
theorem OwB.sli {b : OW} {xs : List Int} (h : OwB b xs) : Sli (Value.int .u8) 1 false 0 b.l b.k b.c xs := ⟨h.at_, by have := h.l; omega, (fun h => nomatch h), fun _ => by have := h.k; have := h.le; omega, h.le, h.flat⟩
theorem encMk_zero (xs : List Int) : encMk xs 0 = num 0 ++ num xs.length := by simp [encMk, encV]
theorem encMk_succ (xs : List Int) (k : Nat) : encMk xs (k + 1) = encMk xs k ++ num (foldI (xs.getD k 0)).toNat := by simp [encMk, encV, List.range_succ]
theorem encM_t {t : Bool} {xs : List Int} {d : D8} (h : t = true) : encM t xs d = num 1 ++ num (dnum [d.d0, d.d1, d.d2, d.d3, d.d4, d.d5, d.d6, d.d7]).toNat := by subst h; rfl
theorem encM_f {t : Bool} {xs : List Int} {d : D8} (h : t = false) : encM t xs d = encMk xs xs.length := by subst h; rfl
theorem w32_getD {xs : List Int} (h : ∀ n ∈ xs, -2147483648 ≤ n ∧ n ≤ 2147483647) (i : Nat) : -2147483648 ≤ xs.getD i 0 ∧ xs.getD i 0 ≤ 2147483647 := by
  by_cases hi : i < xs.length
  · rw [getD_get hi]; exact h _ (List.getElem_mem hi)
  · have : xs.getD i 0 = 0 := by simp [List.getD, hi]
    omega
theorem MH.uniq {a : MA} {xs ys : List Int} (h : MH a xs) (g : MH a ys) : xs = ys := Sli.uniqI h.sl g.sl
theorem g_encM (a : MA) (xs : List Int) (h : MH a xs) (hl : a.s.l ≤ 100) : G_encM a xs := by
  have hxl : xs.length = a.s.l := by have := h.sl.len; omega
  have fl := h.sl.flat
  have hd := dnum_in [a.d.d0, a.d.d1, a.d.d2, a.d.d3, a.d.d4, a.d.d5, a.d.d6, a.d.d7]
  rw [vc_encM]
  refine ⟨fun ht => ⟨⟨trivial, ⟨[], .none⟩, by decide, by decide, by decide⟩, ⟨⟨⟨rfl, rfl, rfl⟩, rfl, trivial⟩, ⟨flatL_nil, trivial⟩, trivial⟩, fun b1 ⟨k1, q1⟩ => ?_, trivial⟩, fun ht => ⟨⟨trivial, ⟨[], .none⟩, by decide, by decide, by decide⟩, ⟨⟨⟨rfl, rfl, rfl⟩, rfl, trivial⟩, ⟨flatL_nil, trivial⟩, trivial⟩, fun b1 ⟨k1, q1⟩ x12 e12 x13 e13 => ?_, trivial⟩⟩
  · have q1 := q1 [] .none
    have hle := q1.le
    refine ⟨⟨trivial, h.d, trivial⟩, ?_, fun _ _ => ⟨⟨trivial, ⟨_, q1.sli⟩, by omega, hd.1, hd.2⟩, ⟨⟨⟨rfl, rfl, rfl, rfl⟩, rfl, trivial⟩, ⟨trivial, q1.flat, rfl⟩, trivial⟩, fun b2 ⟨k2, q2⟩ => ⟨?_, b2, ⟨by omega, fun ys hy => ?_⟩, ⟨rfl, rfl, rfl⟩, ⟨trivial, (q2 _ q1.sli).flat, rfl⟩, trivial⟩, trivial⟩, trivial⟩
    · repeat' first
        | with_reducible apply And.intro
        | exact trivial
        | exact rfl
    · repeat' first
        | with_reducible apply And.intro
        | exact trivial
        | exact rfl
    · rw [encM_t ht]; exact q2 _ q1.sli
  · have q1 := q1 [] .none
    have hle := q1.le
    rw [wrap_u64] at e13
    have e13' : x13.toNat = xs.length := by omega
    refine ⟨⟨trivial, ⟨_, q1.sli⟩, by omega, by omega, by omega⟩, ⟨⟨⟨rfl, rfl, rfl, rfl⟩, rfl, trivial⟩, ⟨trivial, q1.flat, rfl⟩, trivial⟩, fun b2 ⟨k2, q2⟩ => ⟨?_, fun x17 e17 => ⟨⟨0, b2⟩, ?_, ?_, ?_⟩⟩, trivial⟩
    · repeat' first
        | with_reducible apply And.intro
        | exact trivial
        | exact rfl
    · have q2 := q2 _ q1.sli
      have hle2 := q2.le
      rw [e13', List.nil_append, ← encMk_zero] at q2
      exact ⟨⟨by show (0 : Int) ≤ 0; decide, by show (0 : Int) ≤ _; omega⟩, q2, by show (b2.l : Int) ≤ 20 + 10 * 0; omega, by show (b2.k : Int) ≤ 30 + 10 * 0; omega⟩
    · exact ⟨⟨⟨rfl, rfl, rfl⟩, ⟨rfl, rfl, rfl, rfl⟩, by rw [e17], rfl, trivial⟩, ⟨⟨trivial, (q2 _ q1.sli).flat, rfl⟩, ⟨trivial, fl, rfl⟩, trivial⟩, trivial⟩
    rintro ⟨i, b⟩ ⟨⟨hi0, hi1⟩, hb, hbl, hbk⟩
    dsimp only at hi0 hi1 hb hbl hbk ⊢
    refine ⟨fun hlt => ⟨⟨hi0, hlt⟩, fun p hp => ⟨_, Sli.rdD h.sl (i := i.toNat) (by omega) hp, fun x22 e22 => ?_⟩⟩, fun hge => ?_⟩
    · have hw := w32_getD h.w i.toNat
      rw [wrap_sm (by omega)] at e22
      refine ⟨⟨trivial, ⟨_, hb.sli⟩, by omega, by omega, by omega⟩, ⟨⟨⟨rfl, rfl, rfl, rfl⟩, rfl, trivial⟩, ⟨trivial, hb.flat, rfl⟩, trivial⟩, fun b3 ⟨k3, q3⟩ z hz => ?_, trivial⟩
      have q3 := q3 _ hb.sli
      rw [wrap_sm (by omega)] at hz
      have hfi := fold_in (a := x22) (by omega)
      have h10 := num_len10 (n := (foldI x22).toNat) (by omega)
      have hl3 := q3.l
      have hl2 := hb.l
      rw [List.length_append] at hl3
      rw [e22, ← encMk_succ] at q3
      exact ⟨⟨z, b3⟩, ⟨⟨by show 0 ≤ z; omega, by show z ≤ _; omega⟩, by show OwB b3 (encMk xs z.toNat); rw [show z.toNat = i.toNat + 1 by omega]; exact q3, by show (b3.l : Int) ≤ 20 + 10 * z; omega, by show (b3.k : Int) ≤ 30 + 10 * z; omega⟩, by show ((a.s.l : Int) - z).toNat < ((a.s.l : Int) - i).toNat; omega, ⟨⟨rfl, rfl, rfl⟩, ⟨rfl, rfl, rfl, rfl⟩, rfl, rfl, trivial⟩, ⟨⟨trivial, q3.flat, rfl⟩, ⟨trivial, fl, rfl⟩, trivial⟩, trivial⟩
    · refine ⟨b, ⟨by omega, fun ys hy => ?_⟩, ⟨rfl, rfl, rfl⟩, ⟨trivial, hb.flat, rfl⟩, trivial⟩
      rw [hy.uniq h, encM_f ht, show xs.length = i.toNat by omega]; exact hb
theorem s_encM : SpecOK Tryz.prog S_encM.spec := fun a K hp hq => by
  obtain ⟨⟨xs, h⟩, hl⟩ := hp
  exact specD_at (an := [some (la_encM a xs)]) envOK (cwD_ok s_putn (cwD_ok s_puti (cwD_ok s_hnum cw0_ok))) (fun _ => g_encM a xs h hl) K ⟨⟨xs, h⟩, hl⟩ hq
theorem HW.lit (k : IntKind) (z : Int) : HE k [Value.int k z] [z] := ⟨rfl, fun i x h => by
  cases i with
  | zero => cases h; exact .inl rfl
  | succ i => simp at h⟩
theorem g_encM2 (a : MA) (xs : List Int) (h : MH a xs) (hl : a.s.l ≤ 100) : G_encM2 a xs := by
  have hxl : xs.length = a.s.l := by have := h.sl.len; omega
  have fl := h.sl.flat
  have hd := dnum_in [a.d.d0, a.d.d1, a.d.d2, a.d.d3, a.d.d4, a.d.d5, a.d.d6, a.d.d7]
  rw [vc_encM2]
  refine ⟨fun ht => ⟨⟨trivial, trivial⟩, ?_, fun _ _ => ⟨⟨trivial, hd, trivial⟩, ⟨⟨rfl, trivial⟩, trivial⟩, fun y ⟨hy, hyk⟩ => ⟨by omega, fun vs hvs => ⟨fun hle => ?_, fun _ => ⟨?_, by decide, fun n c hn hc => ?_⟩⟩⟩, trivial⟩, trivial⟩, fun ht x11 e11 x12 e12 => ?_⟩
  · repeat' first
      | with_reducible apply And.intro
      | exact trivial
      | exact rfl
  · have := hy.len; have := num_pos (dnum [a.d.d0, a.d.d1, a.d.d2, a.d.d3, a.d.d4, a.d.d5, a.d.d6, a.d.d7]).toNat; omega
  · have := hy.len; have := num_len10 (n := (dnum [a.d.d0, a.d.d1, a.d.d2, a.d.d3, a.d.d4, a.d.d5, a.d.d6, a.d.d7]).toNat) (by omega); unfold Few; omega
  · have hyl := hy.len
    have h10 := num_len10 (n := (dnum [a.d.d0, a.d.d1, a.d.d2, a.d.d3, a.d.d4, a.d.d5, a.d.d6, a.d.d7]).toNat) (by omega)
    have hw : HE .u8 vs (num (dnum [a.d.d0, a.d.d1, a.d.d2, a.d.d3, a.d.d4, a.d.d5, a.d.d6, a.d.d7]).toNat) := by rw [hvs, Nat.mul_one, hyl]; exact hy.win
    have hcc : HE .u8 c (num 1 ++ num (dnum [a.d.d0, a.d.d1, a.d.d2, a.d.d3, a.d.d4, a.d.d5, a.d.d6, a.d.d7]).toNat) := by
      rw [hc, lwin_one, num_small (show 1 < 128 by decide)]
      exact (HW.lit .u8 1).append hw
    have hcl := hcc.len
    rw [List.length_append, num_small (show 1 < 128 by decide)] at hcl
    simp at hcl
    exact ⟨⟨n, c⟩, ⟨⟨by show c.length ≤ n; omega, by show c.length ≤ 3000; omega⟩, fun ys _ => by rw [encM_t ht]; exact hcc⟩, ⟨rfl, by show c.length = n; omega, rfl⟩, ⟨rfl, hcc.flat, rfl⟩, trivial⟩
  · rw [wrap_u64] at e12
    have e12' : x12.toNat = xs.length := by omega
    refine ⟨⟨trivial, ⟨by omega, by omega⟩, trivial⟩, ⟨⟨rfl, trivial⟩, trivial⟩, fun y ⟨hy, hyk⟩ => ⟨by omega, fun vs hvs => ⟨fun hle => ?_, fun _ => ⟨?_, by decide, fun n c hn hc => ?_⟩⟩⟩, trivial⟩
    · exfalso; have := hy.len; have := num_pos x12.toNat; omega
    · have := hy.len; have := num_len10 (n := x12.toNat) (by omega); unfold Few; omega
    have hyl := hy.len
    have h10 := num_len10 (n := x12.toNat) (by omega)
    have hw : HE .u8 vs (num x12.toNat) := by rw [hvs, Nat.mul_one, hyl]; exact hy.win
    have hcc : HE .u8 c (encMk xs 0) := by
      rw [hc, lwin_one, encMk_zero, num_small (show 0 < 128 by decide), ← e12']
      exact (HW.lit .u8 0).append hw
    have hcl := hcc.len
    rw [encMk_zero, List.length_append, num_small (show 0 < 128 by decide), ← e12'] at hcl
    simp at hcl
    refine ⟨⟨0, n, c⟩, ⟨⟨by show (0 : Int) ≤ 0; decide, by show (0 : Int) ≤ _; omega⟩, ⟨hcc, by show c.length ≤ n; omega⟩, by show (c.length : Int) ≤ 20 + 10 * 0; omega⟩, ?_, ?_⟩
    · have q0 := hcc.flat
      have q1 : c.length = n := by omega
      repeat' first
        | with_reducible apply And.intro
        | exact trivial
        | exact rfl
        | assumption
    rintro ⟨i, k, c⟩ ⟨⟨hi0, hi1⟩, ⟨hb, hbk⟩, hbl⟩ x35 e35
    dsimp only at hi0 hi1 hb hbk hbl ⊢
    have st : Sb c c.length k (encMk xs i.toNat) := ⟨hb, hb.len, by rw [← hb.len]; exact hbk⟩
    refine ⟨fun hlt => ⟨⟨hi0, by omega⟩, fun p hp => ⟨_, Sli.rdD h.sl (i := i.toNat) (by omega) hp, fun x38 e38 => ?_⟩⟩, fun hge => ?_⟩
    · have hw := w32_getD h.w i.toNat
      rw [wrap_sm (by omega)] at e38
      have hfi := fold_in (a := x38) (by omega)
      have h10 := num_len10 (n := (foldI x38).toNat) (by omega)
      refine ⟨⟨trivial, ⟨by omega, by omega⟩, trivial⟩, ⟨⟨rfl, trivial⟩, trivial⟩, fun y2 ⟨hy2, _⟩ => ?_, trivial⟩
      have hcl2 := hb.len
      obtain ⟨g1, g2⟩ := st.app hy2 (by omega)
      refine ⟨g1, fun us hus => ?_⟩
      obtain ⟨g3, g4⟩ := g2 us hus
      refine ⟨g3, fun n' k' hn' hk' z hz => ?_⟩
      have g5 := g4 n' k' hn' hk'
      rw [wrap_sm (by omega)] at hz
      rw [e38, ← encMk_succ] at g5
      have g6 := g5.he
      have g7 : (c ++ us).length = n' := by rw [g5.l, g6.len]
      have g8 := g5.k
      have hy2l := hy2.len
      refine ⟨⟨z, k', c ++ us⟩, ⟨⟨by show 0 ≤ z; omega, by show z ≤ _; omega⟩, ⟨by show HE .u8 (c ++ us) (encMk xs z.toNat); rw [show z.toNat = i.toNat + 1 by omega]; exact g6, by show (c ++ us).length ≤ k'; rw [g6.len]; exact g8⟩, by show ((c ++ us).length : Int) ≤ 20 + 10 * z; omega⟩, by show ((a.s.l : Int) - z).toNat < ((a.s.l : Int) - i).toNat; omega, ?_, ?_⟩
      · have q0 := g6.flat
        repeat' first
          | with_reducible apply And.intro
          | exact trivial
          | exact rfl
          | assumption
      · have q0 := g6.flat
        repeat' first
          | with_reducible apply And.intro
          | exact trivial
          | exact rfl
          | assumption
    · exact ⟨⟨k, c⟩, ⟨⟨hbk, by show c.length ≤ 3000; omega⟩, fun ys hy => by rw [hy.uniq h, encM_f ht, show xs.length = i.toNat by omega]; exact hb⟩, ⟨rfl, rfl, rfl⟩, ⟨rfl, hb.flat, rfl⟩, trivial⟩
theorem s_encM2 : SpecOK Tryz.prog S_encM2.spec := fun a K hp hq => by
  obtain ⟨⟨xs, h⟩, hl⟩ := hp
  exact specD_at (an := [some (la_encM2 a xs)]) envOK (cwD_ok s_num (cwD_ok s_signed (cwD_ok s_dnum cw0_ok))) (fun _ => g_encM2 a xs h hl) K ⟨⟨xs, h⟩, hl⟩ hq
/-- Bytes, as a string has them. -/
def u8s (xs : List Int) : List UInt8 := xs.map fun x => UInt8.ofNat x.toNat
theorem u8_back {x : Int} (h : 0 ≤ x ∧ x ≤ 255) : (((UInt8.ofNat x.toNat).toNat : Nat) : Int) = x := by
  rw [UInt8.toNat_ofNat']
  omega
theorem u8s_inj {xs ys : List Int} (hx : Byts8 xs) (hy : Byts8 ys) (h : u8s xs = u8s ys) : xs = ys := by
  have back : ∀ {zs : List Int}, Byts8 zs → (u8s zs).map (fun u => ((u.toNat : Nat) : Int)) = zs := fun {zs} hz => by
    unfold u8s
    rw [List.map_map]
    conv => rhs; rw [← List.map_id zs]
    exact List.map_congr_left fun x hx => u8_back (hz x hx)
  rw [← back hx, ← back hy, h]
theorem u8s_rd {b : OW} {xs : List Int} (h : OwB b xs) (hx : Byts8 xs) : (u8s xs).length = b.l ∧ ∀ (i : Nat) (u : UInt8), (u8s xs)[i]? = some u → Rd b.c (0 + i) (Value.int .u8 u.toNat) := by
  refine ⟨by simp [u8s, h.l], fun i u hu => ?_⟩
  unfold u8s at hu
  rw [List.getElem?_map] at hu
  cases hxi : xs[i]? with
  | none => rw [hxi] at hu; cases hu
  | some x =>
    rw [hxi] at hu
    cases hu
    rw [u8_back (hx x (List.mem_of_getElem? hxi))]
    exact h.at_ i x hxi
theorem byts_append {xs ys : List Int} (h : Byts8 xs) (g : Byts8 ys) : Byts8 (xs ++ ys) := fun b hb => (List.mem_append.1 hb).elim (h b) (g b)
theorem byts_encV (xs : List Int) (k : Nat) : Byts8 (encV xs k) := fun b hb => by
  unfold encV at hb
  obtain ⟨j, _, hj⟩ := List.mem_flatMap.1 hb
  exact num_byts _ b hj
theorem byts_encM (t : Bool) (xs : List Int) (d : D8) : Byts8 (encM t xs d) := by
  unfold encM
  split
  · exact byts_append (num_byts _) (num_byts _)
  · exact byts_append (byts_append (num_byts _) (num_byts _)) (byts_encV _ _)
theorem g_sameM (a : M2) (xs ys : List Int) (hx : MH a.a xs) (hy : MH a.b ys) (h1 : a.a.s.l ≤ 100) (h2 : a.b.s.l ≤ 100) : G_sameM a := by
  have f1 := hx.sl.flat
  have f2 := hy.sl.flat
  rw [vc_sameM]
  have fin : ∀ b : Bool, (b = true ↔ encM a.a.t xs a.a.d = encM a.b.t ys a.b.d) → ∃ x : BL, (∀ us vs : List Int, MH a.a us → MH a.b vs → (x.b = true ↔ encM a.a.t us a.a.d = encM a.b.t vs a.b.d)) ∧ x.b = b ∧ True := fun b hb =>
    ⟨⟨b⟩, fun us vs hu hv => by rw [hu.uniq hx, hv.uniq hy]; exact hb, rfl, trivial⟩
  refine ⟨⟨trivial, ⟨xs, hx⟩, h1⟩, ?_, fun b1 ⟨k1, q1⟩ => ⟨⟨trivial, ⟨ys, hy⟩, h2⟩, ?_, fun b2 ⟨k2, q2⟩ => ?_, trivial⟩, trivial⟩
  · repeat' first
      | with_reducible apply And.intro
      | exact trivial
      | exact rfl
      | assumption
  · repeat' first
      | with_reducible apply And.intro
      | exact trivial
      | exact rfl
      | assumption
  have q1 := q1 _ hx
  have q2 := q2 _ hy
  have c1 := q1.k
  have c2 := q2.k
  have l1 := q1.le
  have l2 := q2.le
  refine ⟨by omega, u8s _, u8s_rd q1 (byts_encM _ _ _), by omega, u8s _, u8s_rd q2 (byts_encM _ _ _), fun he => ⟨?_, fin true ⟨fun _ => u8s_inj (byts_encM _ _ _) (byts_encM _ _ _) he, fun _ => rfl⟩⟩, fun he => ⟨?_, fin false ⟨fun h => (by cases h), fun h => absurd (congrArg u8s h) he⟩⟩⟩
  · repeat' first
      | with_reducible apply And.intro
      | exact trivial
      | exact rfl
  · repeat' first
      | with_reducible apply And.intro
      | exact trivial
      | exact rfl
theorem s_sameM : SpecOK Tryz.prog S_sameM.spec := fun a K hp hq => by
  obtain ⟨⟨xs, ys, hx, hy⟩, h1, h2⟩ := hp
  exact specD_at (an := []) envOK (cwN_ok (fun _ h => cwD_ok s_encM h) 2) (fun _ => g_sameM a xs ys hx hy h1 h2) K ⟨⟨xs, ys, hx, hy⟩, h1, h2⟩ hq
theorem decM_t {bs : List Int} (h : (rdC bs 0 0 1).n = 1) : decM bs = ⟨endC bs (rdC bs (rdC bs 0 0 1).at_ (rdC bs 0 0 1).e 18446744073709551615).at_ (rdC bs (rdC bs 0 0 1).at_ (rdC bs 0 0 1).e 18446744073709551615).e, true, [], frm (rdC bs (rdC bs 0 0 1).at_ (rdC bs 0 0 1).e 18446744073709551615).n⟩ := by unfold decM; rw [if_pos h]
theorem decM_f {bs : List Int} (h : ¬ (rdC bs 0 0 1).n = 1) : decM bs = ⟨endC bs (wsC bs (q2C bs).n.toNat (q2C bs).at_ (q2C bs).e).at_ (wsC bs (q2C bs).n.toNat (q2C bs).at_ (q2C bs).e).e, false, (wsC bs (q2C bs).n.toNat (q2C bs).at_ (q2C bs).e).ws, d80⟩ := by unfold decM q2C; rw [if_neg h]
theorem endC_err {bs : List Int} {p e : Int} (h : e ≠ 0) : endC bs p e = e := by unfold endC; rw [if_neg (fun g => h g.1)]
theorem endC_long {bs : List Int} {p : Int} (h : p < bs.length) : endC bs p 0 = 5 := by unfold endC; rw [if_pos ⟨rfl, h⟩]
theorem endC_ok {bs : List Int} {p : Int} (h : ¬ p < bs.length) : endC bs p 0 = 0 := by unfold endC; rw [if_neg (fun g => h g.2)]
/-- Where so many numbers end. -/
theorem wdC_in {bs : List Int} (hb : Byts8 bs) {p e : Int} (hp : 0 ≤ p) (hp2 : p ≤ bs.length) : 0 ≤ (wdC bs p e).at_ ∧ (wdC bs p e).at_ ≤ bs.length := by
  obtain ⟨_, _, h3, h4⟩ := rdC_in (e := e) hb hp hp2 (show (0 : Int) ≤ 18446744073709551615 by decide)
  unfold wdC
  split
  · exact ⟨hp, hp2⟩
  · exact ⟨h3, h4⟩
theorem wsC_in {bs : List Int} (hb : Byts8 bs) : ∀ (n : Nat) {p e : Int}, 0 ≤ p → p ≤ bs.length → 0 ≤ (wsC bs n p e).at_ ∧ (wsC bs n p e).at_ ≤ bs.length := by
  intro n
  induction n with
  | zero => intro p e h0 h1; exact ⟨h0, h1⟩
  | succ n ih =>
    intro p e h0 h1
    by_cases he : e ≠ 0
    · rw [wsC_ne _ _ _ he]; exact ⟨h0, h1⟩
    · obtain rfl := Decidable.not_not.1 he
      rw [wsC_succ]
      obtain ⟨k0, k1⟩ := wdC_in (e := 0) hb h0 h1
      exact ih k0 k1
theorem g_decM (a : SA) (xs : List Int) (hx : Sli (Value.int .u8) 1 a.n a.o a.l a.k a.c xs) (hb : Byts8 xs) (hl : a.l ≤ 100000) : G_decM a := by
  have hlen : xs.length = a.l := by have := hx.len; omega
  have fl := hx.flat
  rw [vc_decM]
  have err : ∀ {e : Int}, e ≠ 0 → (decM xs).e = e → ∃ x : EE, (x.e ≠ 0 ∧ ∀ ys : List Int, Sli (Value.int .u8) 1 a.n a.o a.l a.k a.c ys → (decM ys).e = x.e) ∧ ((Bool.false = Bool.false ∧ ((0 : Nat) = 0 ∧ (0 : Nat) = 0) ∧ (0 : Int) = 0 ∧ (0 : Int) = 0 ∧ (0 : Int) = 0 ∧ (0 : Int) = 0 ∧ (0 : Int) = 0 ∧ (0 : Int) = 0 ∧ (0 : Int) = 0 ∧ (0 : Int) = 0 ∧ True) ∧ x.e = e ∧ True) ∧ True := fun {e} h0 h1 =>
    ⟨⟨e⟩, ⟨h0, fun ys hy => by rw [Sli.uniqI hy hx]; exact h1⟩, ⟨⟨rfl, ⟨rfl, rfl⟩, rfl, rfl, rfl, rfl, rfl, rfl, rfl, rfl, trivial⟩, rfl, trivial⟩, trivial⟩
  refine ⟨⟨trivial, ⟨xs, hx⟩, by omega, by decide, by decide⟩, ⟨⟨⟨rfl, rfl, rfl, rfl⟩, rfl, trivial⟩, ⟨trivial, fl, rfl⟩, trivial⟩, fun b ⟨_, q⟩ => ?_, trivial⟩
  have q := q _ hx
  have hbl := q.l
  have fb := q.flat
  have hri : ∀ {p e m : Int}, 0 ≤ p → p ≤ xs.length → 0 ≤ m → m < 18446744073709551616 → RI ⟨⟨false, 0, b.l, b.k, b.c⟩, p, e, m⟩ xs := fun {p e m} h0 h1 h2 h3 => ⟨q.sli, hb, h0, by show p ≤ ((b.l : Nat) : Int); omega, h2, h3⟩
  refine ⟨⟨trivial, ⟨xs, hri (by decide) (by omega) (by decide) (by decide)⟩, ⟨rfl, rfl⟩, by omega⟩, ⟨⟨rfl, rfl, trivial⟩, ⟨trivial, ⟨rfl, rfl, rfl⟩, rfl, rfl, trivial⟩, ⟨trivial, fb, rfl⟩, trivial⟩, fun r1 h1 => ?_, trivial⟩
  have h1 : r1 = rdC xs 0 0 1 := h1 xs (hri (by decide) (by omega) (by decide) (by decide))
  obtain ⟨_, _, i3, i4⟩ := rdC_in (e := 0) hb (show (0 : Int) ≤ 0 by decide) (by omega) (show (0 : Int) ≤ 1 by decide)
  rw [← h1] at i3 i4
  refine ⟨fun hk => ?_, fun hk => ?_⟩
  · have hdec := decM_t (bs := xs) (by rw [← h1]; exact hk)
    rw [← h1] at hdec
    refine ⟨⟨trivial, ⟨xs, hri i3 i4 (by decide) (by decide)⟩, ⟨rfl, rfl⟩, by omega⟩, ⟨⟨rfl, rfl, trivial⟩, ⟨trivial, ⟨rfl, rfl, rfl⟩, rfl, rfl, trivial⟩, ⟨trivial, fb, rfl⟩, trivial⟩, fun r2 h2 => ?_, trivial⟩
    have h2 : r2 = rdC xs r1.at_ r1.e 18446744073709551615 := h2 xs (hri i3 i4 (by decide) (by decide))
    obtain ⟨j1, j2, j3, j4⟩ := rdC_in (e := r1.e) hb i3 i4 (show (0 : Int) ≤ 18446744073709551615 by decide)
    rw [← h2] at j1 j2 j3 j4 hdec
    refine ⟨⟨trivial, ⟨j1, by omega⟩, trivial⟩, ⟨⟨rfl, trivial⟩, trivial⟩, fun _ _ => ⟨fun he => ⟨fun _ => err he (by rw [hdec]; exact endC_err he), fun h => absurd he h⟩, fun he x15 e15 x16 e16 => ⟨?_, fun hpos => err (by decide) ?_, fun hpos => ?_⟩⟩, trivial⟩
    · repeat' first
        | with_reducible apply And.intro
        | exact trivial
    · rw [wrap_sm (by omega)] at e16
      rw [hdec, Decidable.not_not.1 he]
      exact endC_long (by omega)
    · rw [wrap_sm (by omega)] at e16
      rw [Decidable.not_not.1 he, endC_ok (by omega)] at hdec
      exact ⟨⟨true, ⟨true, 0, 0, []⟩, frm r2.n⟩, fun ys hy => ⟨[], .none, by rw [Sli.uniqI hy hx]; exact hdec⟩, ⟨⟨rfl, ⟨rfl, rfl, rfl⟩, rfl, rfl, rfl, rfl, rfl, rfl, rfl, rfl, trivial⟩, rfl, trivial⟩, ⟨flatL_nil, trivial⟩, trivial⟩
  · have hdec := decM_f (bs := xs) (by rw [← h1]; exact hk)
    refine ⟨⟨trivial, ⟨xs, hri i3 i4 (by decide) (by decide)⟩, ⟨rfl, rfl⟩, by omega, by decide⟩, ⟨⟨rfl, rfl, trivial⟩, ⟨trivial, ⟨rfl, rfl, rfl⟩, rfl, rfl, trivial⟩, ⟨trivial, fb, rfl⟩, trivial⟩, fun w hw => ?_, trivial⟩
    have hw := hw xs (hri i3 i4 (by decide) (by decide))
    have hq2 : q2C xs = rdC xs r1.at_ r1.e 4 := by unfold q2C; rw [← h1]
    have hw : w.e = (wsC xs (q2C xs).n.toNat (q2C xs).at_ (q2C xs).e).e ∧ (w.e = 0 → w.re = 0 ∧ w.at_ = (wsC xs (q2C xs).n.toNat (q2C xs).at_ (q2C xs).e).at_ ∧ LC w.s (wsC xs (q2C xs).n.toNat (q2C xs).at_ (q2C xs).e).ws) := by rw [hq2]; exact hw
    obtain ⟨_, _, j3, j4⟩ := rdC_in (e := r1.e) hb i3 i4 (show (0 : Int) ≤ 4 by decide)
    rw [← hq2] at j3 j4
    obtain ⟨t1, t2⟩ := wsC_in hb (q2C xs).n.toNat (e := (q2C xs).e) j3 j4
    generalize wsC xs (q2C xs).n.toNat (q2C xs).at_ (q2C xs).e = T at hdec hw t1 t2
    obtain ⟨w1, w2⟩ := hw
    refine ⟨fun he => err he (by rw [hdec, ← w1]; exact endC_err he), fun he => ?_⟩
    have he := Decidable.not_not.1 he
    obtain ⟨w3, w4, w5⟩ := w2 he
    rw [← w1, he, ← w4] at hdec
    refine ⟨fun h => absurd w3 h, fun _ x32 e32 x33 e33 => ⟨?_, fun hpos => err (by decide) ?_, fun hpos => ?_⟩⟩
    · repeat' first
        | with_reducible apply And.intro
        | exact trivial
    · rw [wrap_sm (by omega)] at e33
      rw [hdec]
      exact endC_long (by omega)
    · rw [wrap_sm (by omega)] at e33
      rw [endC_ok (by omega)] at hdec
      exact ⟨⟨false, w.s, d80⟩, fun ys hy => ⟨_, w5, by rw [Sli.uniqI hy hx]; exact hdec⟩, ⟨⟨rfl, ⟨rfl, rfl, rfl, rfl⟩, rfl, rfl, rfl, rfl, rfl, rfl, rfl, rfl, trivial⟩, rfl, trivial⟩, ⟨rfl, w5.flat, rfl⟩, trivial⟩
theorem s_decM : SpecOK Tryz.prog S_decM.spec := fun a K hp hq => by
  obtain ⟨⟨xs, hx, hb⟩, hl⟩ := hp
  exact specD_at (an := []) envOK (cwN_ok (fun _ h => cwD_ok s_fresh (cwD_ok s_rnum (cwD_ok s_words (cwD_ok s_hfrom h)))) 3) (fun _ => g_decM a xs hx hb hl) K ⟨⟨xs, hx, hb⟩, hl⟩ hq
end Go.Proofs.YtalbjjimnhldfaaGreatDoor
