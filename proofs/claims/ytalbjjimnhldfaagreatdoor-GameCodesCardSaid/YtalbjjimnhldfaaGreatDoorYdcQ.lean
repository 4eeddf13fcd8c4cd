/- Positions out of bytes: what is told of the program's Decode is so. -/
import Derived.Test.YtalbjjimnhldfaaGreatDoorYdc
set_option maxRecDepth 100000
namespace Go.Proofs.YtalbjjimnhldfaaGreatDoor
open Go.Ev
noncomputable section
def W_G_decP_0 : PM → Option AO := fun (x13 : PM) => Option.some (AO.row [Value.iface (1000000009 : Nat) (Value.agg (Array.mk [Value.bool x13.6.1, Value.slice (Option.some (Addr.mk (15 : Nat) (0 : Nat) Option.none))
x13.6.2 x13.6.3])), Value.iface (1000000009 : Nat) (Value.agg (Array.mk [Value.bool x13.7.1, Value.slice (Option.some (Addr.mk (17 : Nat) (0 : Nat) Option.none)) x13.7.2
x13.7.3])), Value.slice Option.none (0 : Nat) (0 : Nat), Value.int IntKind.i64 (0 : Int), Value.int IntKind.i64 (0 : Int), Value.int IntKind.i64 (0 : Int), Value.int IntKind.i64 (0
: Int), Value.int IntKind.u64 (0 : Int)] (37 : Nat) Md.own)
def W_G_decP_1 : PM → Option AO := fun (x50 : PM) => Option.some (AO.row [Value.iface (1000000009 : Nat) (Value.agg (Array.mk [Value.bool x50.6.1, Value.slice (Option.some (Addr.mk (15 : Nat) (0 : Nat) Option.none))
x50.6.2 x50.6.3])), Value.iface (1000000009 : Nat) (Value.agg (Array.mk [Value.bool x50.7.1, Value.slice (Option.some (Addr.mk (17 : Nat) (0 : Nat) Option.none)) x50.7.2
x50.7.3])), Value.iface (1000000009 : Nat) (Value.agg (Array.mk [Value.bool x50.8.1, Value.slice (Option.some (Addr.mk (18 : Nat) (0 : Nat) Option.none)) x50.8.2 x50.8.3])),
Value.int IntKind.i64 (0 : Int), Value.int IntKind.i64 (0 : Int), Value.int IntKind.i64 (0 : Int), Value.int IntKind.i64 (0 : Int), Value.int IntKind.u64 (0 : Int)] (37 : Nat)
Md.own)
end
set_option maxHeartbeats 3200000 in
theorem vc_decP (a : SA) (xs : List Int) : G_decP a xs = ((True ∧ (∃ (x0 : List Int), SB a.1 a.2 a.3 a.4 a.5 x0) ∧ a.3 ≤ 1000000 ∧ (0 : Int) ≤ Int.ofNat 0 ∧ Int.ofNat 0 ≤ (1000000 : Int)) ∧ ((Z4 a ∧ Int.ofNat 0 = (0 : Int) ∧ True) ∧ ZF
a.5 ∧ True) ∧ (∀ (x1 : OW), (x1.2 = a.3 + Int.toNat (Int.ofNat 0) ∧ ∀ (x2 : List Int), SB a.1 a.2 a.3 a.4 a.5 x2 → OwB x1 x2) → (True ∧ (∃ (x3 : List Int), RI (RA.mk (SA.mk false 0
x1.1 x1.2 x1.3) (0 : Int) (0 : Int) (64 : Int)) x3) ∧ (false = false ∧ nat_lit 0 = 0) ∧ x1.1 ≤ 1000000 ∧ Int.ofNat 64 ≤ (1000 : Int)) ∧ ((0 = 0 ∧ Int.ofNat 64 = (64 : Int) ∧ True)
∧ (True ∧ (0 = 0 ∧ x1.1 = x1.1 ∧ x1.2 = x1.2) ∧ Int.ofNat 0 = (0 : Int) ∧ Int.ofNat 0 = (0 : Int) ∧ True) ∧ ZF x1.3 ∧ True) ∧ (∀ (x4 : WS), (∀ (x5 : List Int), RI (RA.mk (SA.mk
false 0 x1.1 x1.2 x1.3) (0 : Int) (0 : Int) (64 : Int)) x5 → x4.3 = (wsC x5 (Int.toNat (rdC x5 (Int.ofNat 0) (Int.ofNat 0) (Int.ofNat 64)).3) (rdC x5 (Int.ofNat 0) (Int.ofNat 0)
(Int.ofNat 64)).1 (rdC x5 (Int.ofNat 0) (Int.ofNat 0) (Int.ofNat 64)).2).2 ∧ (x4.3 = 0 → x4.2 = 0 ∧ x4.1 = (wsC x5 (Int.toNat (rdC x5 (Int.ofNat 0) (Int.ofNat 0) (Int.ofNat 64)).3)
(rdC x5 (Int.ofNat 0) (Int.ofNat 0) (Int.ofNat 64)).1 (rdC x5 (Int.ofNat 0) (Int.ofNat 0) (Int.ofNat 64)).2).1 ∧ LC x4.4 (wsC x5 (Int.toNat (rdC x5 (Int.ofNat 0) (Int.ofNat 0)
(Int.ofNat 64)).3) (rdC x5 (Int.ofNat 0) (Int.ofNat 0) (Int.ofNat 64)).1 (rdC x5 (Int.ofNat 0) (Int.ofNat 0) (Int.ofNat 64)).2).3)) → (x4.3 ≠ 0 → ∃ (x6 : EE), (x6.1 ≠ 0 ∧ ∀ (x7 :
List Int), SB a.1 a.2 a.3 a.4 a.5 x7 → endC x7 (r4C x7).1 (r4C x7).2 = x6.1) ∧ (((0 = 0 ∧ 0 = 0) ∧ (0 = 0 ∧ 0 = 0) ∧ (0 = 0 ∧ 0 = 0) ∧ (0 : Int) = 0 ∧ (0 : Int) = 0 ∧ (0 : Int) = 0
∧ (0 : Int) = 0 ∧ (0 : Int) = 0 ∧ True) ∧ x6.1 = x4.3 ∧ True) ∧ True) ∧ (¬x4.3 ≠ 0 → (True ∧ (∃ (x8 : List Int), RI (RA.mk (SA.mk false 0 x1.1 x1.2 x1.3) x4.1 x4.2 (8 : Int)) x8) ∧
(false = false ∧ nat_lit 0 = 0) ∧ x1.1 ≤ 1000000) ∧ ((0 = 0 ∧ Int.ofNat 8 = (8 : Int) ∧ True) ∧ (True ∧ (0 = 0 ∧ x1.1 = x1.1 ∧ x1.2 = x1.2) ∧ x4.1 = x4.1 ∧ x4.2 = x4.2 ∧ True) ∧ ZF
x1.3 ∧ True) ∧ (∀ (x9 : RR), (∀ (x10 : List Int), RI (RA.mk (SA.mk false 0 x1.1 x1.2 x1.3) x4.1 x4.2 (8 : Int)) x10 → x9 = rdC x10 x4.1 x4.2 (Int.ofNat 8)) → ∃ (x11 : PM), (((0 ≤
x11.5 ∧ x11.5 ≤ x11.4) ∧ x11.4 = (dgC xs).3 ∧ RI (RA.mk (SA.mk false 0 x11.1.1 x11.1.2 x11.1.3) x11.2 x11.3 (0 : Int)) xs ∧ x11.1.1 ≤ 100000) ∧ LC x11.6 (dWC xs).3 ∧ ∃ (x12 : List
Int), LF Value.bool 1 x11.7 (goneL x12) ∧ (↑(List.length x12) : Int) = x11.5 ∧ (dGC xs).2 = (rsC xs (1 : Int) (Int.toNat (x11.4 - x11.5)) x11.2 x11.3).2 ∧ ((rsC xs (1 : Int)
(Int.toNat (x11.4 - x11.5)) x11.2 x11.3).2 = (0 : Int) → dGC xs = LN.mk (rsC xs (1 : Int) (Int.toNat (x11.4 - x11.5)) x11.2 x11.3).1 (0 : Int) (x12 ++ (rsC xs (1 : Int) (Int.toNat
(x11.4 - x11.5)) x11.2 x11.3).3))) ∧ ((0 = 0 ∧ 0 = 0 ∧ 0 = 0 ∧ x11.4 = x9.3 ∧ x11.5 = 0 ∧ True) ∧ ((True ∧ (x11.6.1 = x4.4.1 ∧ 0 = 0 ∧ x11.6.2 = x4.4.2 ∧ x11.6.3 = x4.4.3) ∧
(x11.7.1 = true ∧ x11.7.2 = 0 ∧ x11.7.3 = 0) ∧ (0 = 0 ∧ 0 = 0) ∧ (0 : Int) = 0 ∧ (0 : Int) = 0 ∧ (0 : Int) = 0 ∧ (0 : Int) = 0 ∧ (0 : Int) = 0 ∧ True) ∧ (True ∧ (0 = 0 ∧ x11.1.1 =
x1.1 ∧ x11.1.2 = x1.2) ∧ x11.2 = x9.1 ∧ x11.3 = x9.2 ∧ True) ∧ (x11.6.3 = x4.4.3 ∧ FlatL x11.6.4 ∧ x11.6.4 = x4.4.4) ∧ (True ∧ (0 = 0 ∧ 0 = 0) ∧ (0 = 0 ∧ 0 = 0) ∧ (0 = 0 ∧ 0 = 0) ∧
(0 : Int) = 0 ∧ (0 : Int) = 0 ∧ (0 : Int) = 0 ∧ (0 : Int) = 0 ∧ (0 : Int) = 0 ∧ True) ∧ (True ∧ FlatL x11.1.3 ∧ x11.1.3 = x1.3) ∧ (FlatL x11.7.4 ∧ True) ∧ True) ∧ True) ∧ ∀ (x13 :
PM), (((0 ≤ x13.5 ∧ x13.5 ≤ x13.4) ∧ x13.4 = (dgC xs).3 ∧ RI (RA.mk (SA.mk false 0 x13.1.1 x13.1.2 x13.1.3) x13.2 x13.3 (0 : Int)) xs ∧ x13.1.1 ≤ 100000) ∧ LC x13.6 (dWC xs).3 ∧ ∃
(x14 : List Int), LF Value.bool 1 x13.7 (goneL x14) ∧ (↑(List.length x14) : Int) = x13.5 ∧ (dGC xs).2 = (rsC xs (1 : Int) (Int.toNat (x13.4 - x13.5)) x13.2 x13.3).2 ∧ ((rsC xs (1 :
Int) (Int.toNat (x13.4 - x13.5)) x13.2 x13.3).2 = (0 : Int) → dGC xs = LN.mk (rsC xs (1 : Int) (Int.toNat (x13.4 - x13.5)) x13.2 x13.3).1 (0 : Int) (x14 ++ (rsC xs (1 : Int)
(Int.toNat (x13.4 - x13.5)) x13.2 x13.3).3))) → (x13.5 < x13.4 → (True ∧ (∃ (x15 : List Int), RI (RA.mk (SA.mk false 0 x13.1.1 x13.1.2 x13.1.3) x13.2 x13.3 (1 : Int)) x15) ∧ (false
= false ∧ nat_lit 0 = 0) ∧ x13.1.1 ≤ 1000000) ∧ ((0 = 0 ∧ Int.ofNat 1 = (1 : Int) ∧ True) ∧ (True ∧ (0 = 0 ∧ x13.1.1 = x13.1.1 ∧ x13.1.2 = x13.1.2) ∧ x13.2 = x13.2 ∧ x13.3 = x13.3
∧ True) ∧ ZF x13.1.3 ∧ True) ∧ (∀ (x16 : RR), (∀ (x17 : List Int), RI (RA.mk (SA.mk false 0 x13.1.1 x13.1.2 x13.1.3) x13.2 x13.3 (1 : Int)) x17 → x16 = rdC x17 x13.2 x13.3
(Int.ofNat 1)) → (x16.3 = 1 → (x13.7.1 = true → 1 ≤ 1 ∧ ∀ (x18 : List Value), x18 = lwin [Value.bool true] 0 1 → (1 = 0 → ((True ∧ True ∧ True) ∧ (W_G_decP_0 x13 = W_G_decP_0 x13 ∧
W_G_decP_0 x13 = W_G_decP_0 x13 ∧ True) ∧ True ∧ True ∧ True ∧ True ∧ True ∧ True ∧ True ∧ True) ∧ ∀ x19, x19 = IntKind.wrap .u64 (x13.5 + (1 : Int)) → ∃ (x20 : PM), (((0 ≤ x20.5 ∧
x20.5 ≤ x20.4) ∧ x20.4 = (dgC xs).3 ∧ RI (RA.mk (SA.mk false 0 x20.1.1 x20.1.2 x20.1.3) x20.2 x20.3 (0 : Int)) xs ∧ x20.1.1 ≤ 100000) ∧ LC x20.6 (dWC xs).3 ∧ ∃ (x21 : List Int), LF
Value.bool 1 x20.7 (goneL x21) ∧ (↑(List.length x21) : Int) = x20.5 ∧ (dGC xs).2 = (rsC xs (1 : Int) (Int.toNat (x20.4 - x20.5)) x20.2 x20.3).2 ∧ ((rsC xs (1 : Int) (Int.toNat
(x20.4 - x20.5)) x20.2 x20.3).2 = (0 : Int) → dGC xs = LN.mk (rsC xs (1 : Int) (Int.toNat (x20.4 - x20.5)) x20.2 x20.3).1 (0 : Int) (x21 ++ (rsC xs (1 : Int) (Int.toNat (x20.4 -
x20.5)) x20.2 x20.3).3))) ∧ Int.toNat (x20.4 - x20.5) < Int.toNat (x13.4 - x13.5) ∧ (0 = 0 ∧ 0 = 0 ∧ 0 = 0 ∧ x20.4 = x13.4 ∧ x20.5 = x19 ∧ True) ∧ ((True ∧ (x20.6.1 = x13.6.1 ∧ 0 =
0 ∧ x20.6.2 = x13.6.2 ∧ x20.6.3 = x13.6.3) ∧ (x20.7.1 = true ∧ x20.7.2 = 0 ∧ x20.7.3 = 0) ∧ (0 = 0 ∧ 0 = 0) ∧ (0 : Int) = 0 ∧ (0 : Int) = 0 ∧ (0 : Int) = 0 ∧ (0 : Int) = 0 ∧ (0 :
Int) = 0 ∧ True) ∧ (True ∧ (0 = 0 ∧ x20.1.1 = x13.1.1 ∧ x20.1.2 = x13.1.2) ∧ x20.2 = x16.1 ∧ x20.3 = x16.2 ∧ True) ∧ (x20.6.3 = x13.6.3 ∧ FlatL x20.6.4 ∧ x20.6.4 = x13.6.4) ∧ (True
∧ (0 = 0 ∧ 0 = 0) ∧ (0 = 0 ∧ 0 = 0) ∧ (0 = 0 ∧ 0 = 0) ∧ (0 : Int) = 0 ∧ (0 : Int) = 0 ∧ (0 : Int) = 0 ∧ (0 : Int) = 0 ∧ (0 : Int) = 0 ∧ True) ∧ (True ∧ FlatL x20.1.3 ∧ x20.1.3 =
x13.1.3) ∧ (FlatL x20.7.4 ∧ True) ∧ True) ∧ True) ∧ (1 ≠ 0 → Few 1 1 ∧ ((True ∧ True ∧ True) ∧ (W_G_decP_0 x13 = W_G_decP_0 x13 ∧ W_G_decP_0 x13 = W_G_decP_0 x13 ∧ True) ∧ True ∧
True ∧ True ∧ True ∧ True ∧ True ∧ True ∧ True) ∧ ∀ x22, x22 = IntKind.wrap .u64 (x13.5 + (1 : Int)) → ∃ (x23 : PM), (((0 ≤ x23.5 ∧ x23.5 ≤ x23.4) ∧ x23.4 = (dgC xs).3 ∧ RI (RA.mk
(SA.mk false 0 x23.1.1 x23.1.2 x23.1.3) x23.2 x23.3 (0 : Int)) xs ∧ x23.1.1 ≤ 100000) ∧ LC x23.6 (dWC xs).3 ∧ ∃ (x24 : List Int), LF Value.bool 1 x23.7 (goneL x24) ∧ (↑(List.length
x24) : Int) = x23.5 ∧ (dGC xs).2 = (rsC xs (1 : Int) (Int.toNat (x23.4 - x23.5)) x23.2 x23.3).2 ∧ ((rsC xs (1 : Int) (Int.toNat (x23.4 - x23.5)) x23.2 x23.3).2 = (0 : Int) → dGC xs
= LN.mk (rsC xs (1 : Int) (Int.toNat (x23.4 - x23.5)) x23.2 x23.3).1 (0 : Int) (x24 ++ (rsC xs (1 : Int) (Int.toNat (x23.4 - x23.5)) x23.2 x23.3).3))) ∧ Int.toNat (x23.4 - x23.5) <
Int.toNat (x13.4 - x13.5) ∧ (0 = 0 ∧ 0 = 0 ∧ 0 = 0 ∧ x23.4 = x13.4 ∧ x23.5 = x22 ∧ True) ∧ ((True ∧ (x23.6.1 = x13.6.1 ∧ 0 = 0 ∧ x23.6.2 = x13.6.2 ∧ x23.6.3 = x13.6.3) ∧ (x23.7.1 =
false ∧ 0 = 0 ∧ x23.7.2 = 1 ∧ x23.7.3 = 1) ∧ (0 = 0 ∧ 0 = 0) ∧ (0 : Int) = 0 ∧ (0 : Int) = 0 ∧ (0 : Int) = 0 ∧ (0 : Int) = 0 ∧ (0 : Int) = 0 ∧ True) ∧ (True ∧ (0 = 0 ∧ x23.1.1 =
x13.1.1 ∧ x23.1.2 = x13.1.2) ∧ x23.2 = x16.1 ∧ x23.3 = x16.2 ∧ True) ∧ (x23.6.3 = x13.6.3 ∧ FlatL x23.6.4 ∧ x23.6.4 = x13.6.4) ∧ (True ∧ (0 = 0 ∧ 0 = 0) ∧ (0 = 0 ∧ 0 = 0) ∧ (0 = 0
∧ 0 = 0) ∧ (0 : Int) = 0 ∧ (0 : Int) = 0 ∧ (0 : Int) = 0 ∧ (0 : Int) = 0 ∧ (0 : Int) = 0 ∧ True) ∧ (True ∧ FlatL x23.1.3 ∧ x23.1.3 = x13.1.3) ∧ (x23.7.3 = 1 ∧ FlatL x23.7.4 ∧
x23.7.4 = x18) ∧ True) ∧ True)) ∧ (x13.7.1 = false → 1 ≤ 1 ∧ ∀ (x25 : List Value), x25 = lwin [Value.bool true] 0 1 → (0 = 0 ∧ List.length x13.7.4 = x13.7.2 * 1 ∧ x13.7.3 = x13.7.3
∧ x13.7.2 ≤ x13.7.3 ∧ Few (x13.7.2 + 1) 1 ∧ lall oneK x25 = true) ∧ ∀ (x26 x27 : Nat), x26 = x13.7.2 + 1 → (x27 = if x26 ≤ SN.k (PM.g x13) then x13.7.3 else x26) → ((True ∧ True ∧
True) ∧ (W_G_decP_0 x13 = W_G_decP_0 x13 ∧ W_G_decP_0 x13 = W_G_decP_0 x13 ∧ True) ∧ True ∧ True ∧ True ∧ True ∧ True ∧ True ∧ True ∧ True) ∧ ∀ x28, x28 = IntKind.wrap .u64 (x13.5
+ (1 : Int)) → ∃ (x29 : PM), (((0 ≤ x29.5 ∧ x29.5 ≤ x29.4) ∧ x29.4 = (dgC xs).3 ∧ RI (RA.mk (SA.mk false 0 x29.1.1 x29.1.2 x29.1.3) x29.2 x29.3 (0 : Int)) xs ∧ x29.1.1 ≤ 100000) ∧
LC x29.6 (dWC xs).3 ∧ ∃ (x30 : List Int), LF Value.bool 1 x29.7 (goneL x30) ∧ (↑(List.length x30) : Int) = x29.5 ∧ (dGC xs).2 = (rsC xs (1 : Int) (Int.toNat (x29.4 - x29.5)) x29.2
x29.3).2 ∧ ((rsC xs (1 : Int) (Int.toNat (x29.4 - x29.5)) x29.2 x29.3).2 = (0 : Int) → dGC xs = LN.mk (rsC xs (1 : Int) (Int.toNat (x29.4 - x29.5)) x29.2 x29.3).1 (0 : Int) (x30 ++
(rsC xs (1 : Int) (Int.toNat (x29.4 - x29.5)) x29.2 x29.3).3))) ∧ Int.toNat (x29.4 - x29.5) < Int.toNat (x13.4 - x13.5) ∧ (0 = 0 ∧ 0 = 0 ∧ 0 = 0 ∧ x29.4 = x13.4 ∧ x29.5 = x28 ∧
True) ∧ ((True ∧ (x29.6.1 = x13.6.1 ∧ 0 = 0 ∧ x29.6.2 = x13.6.2 ∧ x29.6.3 = x13.6.3) ∧ (x29.7.1 = false ∧ 0 = 0 ∧ x29.7.2 = x26 ∧ x29.7.3 = x27) ∧ (0 = 0 ∧ 0 = 0) ∧ (0 : Int) = 0 ∧
(0 : Int) = 0 ∧ (0 : Int) = 0 ∧ (0 : Int) = 0 ∧ (0 : Int) = 0 ∧ True) ∧ (True ∧ (0 = 0 ∧ x29.1.1 = x13.1.1 ∧ x29.1.2 = x13.1.2) ∧ x29.2 = x16.1 ∧ x29.3 = x16.2 ∧ True) ∧ (x29.6.3 =
x13.6.3 ∧ FlatL x29.6.4 ∧ x29.6.4 = x13.6.4) ∧ (True ∧ (0 = 0 ∧ 0 = 0) ∧ (0 = 0 ∧ 0 = 0) ∧ (0 = 0 ∧ 0 = 0) ∧ (0 : Int) = 0 ∧ (0 : Int) = 0 ∧ (0 : Int) = 0 ∧ (0 : Int) = 0 ∧ (0 :
Int) = 0 ∧ True) ∧ (True ∧ FlatL x29.1.3 ∧ x29.1.3 = x13.1.3) ∧ (x29.7.3 = x27 ∧ FlatL x29.7.4 ∧ x29.7.4 = x13.7.4 ++ x25) ∧ True) ∧ True)) ∧ (¬x16.3 = 1 → (x13.7.1 = true → 1 ≤ 1
∧ ∀ (x31 : List Value), x31 = lwin [Value.bool false] 0 1 → (1 = 0 → ((True ∧ True ∧ True) ∧ (W_G_decP_0 x13 = W_G_decP_0 x13 ∧ W_G_decP_0 x13 = W_G_decP_0 x13 ∧ True) ∧ True ∧
True ∧ True ∧ True ∧ True ∧ True ∧ True ∧ True) ∧ ∀ x32, x32 = IntKind.wrap .u64 (x13.5 + (1 : Int)) → ∃ (x33 : PM), (((0 ≤ x33.5 ∧ x33.5 ≤ x33.4) ∧ x33.4 = (dgC xs).3 ∧ RI (RA.mk
(SA.mk false 0 x33.1.1 x33.1.2 x33.1.3) x33.2 x33.3 (0 : Int)) xs ∧ x33.1.1 ≤ 100000) ∧ LC x33.6 (dWC xs).3 ∧ ∃ (x34 : List Int), LF Value.bool 1 x33.7 (goneL x34) ∧ (↑(List.length
x34) : Int) = x33.5 ∧ (dGC xs).2 = (rsC xs (1 : Int) (Int.toNat (x33.4 - x33.5)) x33.2 x33.3).2 ∧ ((rsC xs (1 : Int) (Int.toNat (x33.4 - x33.5)) x33.2 x33.3).2 = (0 : Int) → dGC xs
= LN.mk (rsC xs (1 : Int) (Int.toNat (x33.4 - x33.5)) x33.2 x33.3).1 (0 : Int) (x34 ++ (rsC xs (1 : Int) (Int.toNat (x33.4 - x33.5)) x33.2 x33.3).3))) ∧ Int.toNat (x33.4 - x33.5) <
Int.toNat (x13.4 - x13.5) ∧ (0 = 0 ∧ 0 = 0 ∧ 0 = 0 ∧ x33.4 = x13.4 ∧ x33.5 = x32 ∧ True) ∧ ((True ∧ (x33.6.1 = x13.6.1 ∧ 0 = 0 ∧ x33.6.2 = x13.6.2 ∧ x33.6.3 = x13.6.3) ∧ (x33.7.1 =
true ∧ x33.7.2 = 0 ∧ x33.7.3 = 0) ∧ (0 = 0 ∧ 0 = 0) ∧ (0 : Int) = 0 ∧ (0 : Int) = 0 ∧ (0 : Int) = 0 ∧ (0 : Int) = 0 ∧ (0 : Int) = 0 ∧ True) ∧ (True ∧ (0 = 0 ∧ x33.1.1 = x13.1.1 ∧
x33.1.2 = x13.1.2) ∧ x33.2 = x16.1 ∧ x33.3 = x16.2 ∧ True) ∧ (x33.6.3 = x13.6.3 ∧ FlatL x33.6.4 ∧ x33.6.4 = x13.6.4) ∧ (True ∧ (0 = 0 ∧ 0 = 0) ∧ (0 = 0 ∧ 0 = 0) ∧ (0 = 0 ∧ 0 = 0) ∧
(0 : Int) = 0 ∧ (0 : Int) = 0 ∧ (0 : Int) = 0 ∧ (0 : Int) = 0 ∧ (0 : Int) = 0 ∧ True) ∧ (True ∧ FlatL x33.1.3 ∧ x33.1.3 = x13.1.3) ∧ (FlatL x33.7.4 ∧ True) ∧ True) ∧ True) ∧ (1 ≠ 0
→ Few 1 1 ∧ ((True ∧ True ∧ True) ∧ (W_G_decP_0 x13 = W_G_decP_0 x13 ∧ W_G_decP_0 x13 = W_G_decP_0 x13 ∧ True) ∧ True ∧ True ∧ True ∧ True ∧ True ∧ True ∧ True ∧ True) ∧ ∀ x35, x35
= IntKind.wrap .u64 (x13.5 + (1 : Int)) → ∃ (x36 : PM), (((0 ≤ x36.5 ∧ x36.5 ≤ x36.4) ∧ x36.4 = (dgC xs).3 ∧ RI (RA.mk (SA.mk false 0 x36.1.1 x36.1.2 x36.1.3) x36.2 x36.3 (0 :
Int)) xs ∧ x36.1.1 ≤ 100000) ∧ LC x36.6 (dWC xs).3 ∧ ∃ (x37 : List Int), LF Value.bool 1 x36.7 (goneL x37) ∧ (↑(List.length x37) : Int) = x36.5 ∧ (dGC xs).2 = (rsC xs (1 : Int)
(Int.toNat (x36.4 - x36.5)) x36.2 x36.3).2 ∧ ((rsC xs (1 : Int) (Int.toNat (x36.4 - x36.5)) x36.2 x36.3).2 = (0 : Int) → dGC xs = LN.mk (rsC xs (1 : Int) (Int.toNat (x36.4 -
x36.5)) x36.2 x36.3).1 (0 : Int) (x37 ++ (rsC xs (1 : Int) (Int.toNat (x36.4 - x36.5)) x36.2 x36.3).3))) ∧ Int.toNat (x36.4 - x36.5) < Int.toNat (x13.4 - x13.5) ∧ (0 = 0 ∧ 0 = 0 ∧
0 = 0 ∧ x36.4 = x13.4 ∧ x36.5 = x35 ∧ True) ∧ ((True ∧ (x36.6.1 = x13.6.1 ∧ 0 = 0 ∧ x36.6.2 = x13.6.2 ∧ x36.6.3 = x13.6.3) ∧ (x36.7.1 = false ∧ 0 = 0 ∧ x36.7.2 = 1 ∧ x36.7.3 = 1) ∧
(0 = 0 ∧ 0 = 0) ∧ (0 : Int) = 0 ∧ (0 : Int) = 0 ∧ (0 : Int) = 0 ∧ (0 : Int) = 0 ∧ (0 : Int) = 0 ∧ True) ∧ (True ∧ (0 = 0 ∧ x36.1.1 = x13.1.1 ∧ x36.1.2 = x13.1.2) ∧ x36.2 = x16.1 ∧
x36.3 = x16.2 ∧ True) ∧ (x36.6.3 = x13.6.3 ∧ FlatL x36.6.4 ∧ x36.6.4 = x13.6.4) ∧ (True ∧ (0 = 0 ∧ 0 = 0) ∧ (0 = 0 ∧ 0 = 0) ∧ (0 = 0 ∧ 0 = 0) ∧ (0 : Int) = 0 ∧ (0 : Int) = 0 ∧ (0 :
Int) = 0 ∧ (0 : Int) = 0 ∧ (0 : Int) = 0 ∧ True) ∧ (True ∧ FlatL x36.1.3 ∧ x36.1.3 = x13.1.3) ∧ (x36.7.3 = 1 ∧ FlatL x36.7.4 ∧ x36.7.4 = x31) ∧ True) ∧ True)) ∧ (x13.7.1 = false →
1 ≤ 1 ∧ ∀ (x38 : List Value), x38 = lwin [Value.bool false] 0 1 → (0 = 0 ∧ List.length x13.7.4 = x13.7.2 * 1 ∧ x13.7.3 = x13.7.3 ∧ x13.7.2 ≤ x13.7.3 ∧ Few (x13.7.2 + 1) 1 ∧ lall
oneK x38 = true) ∧ ∀ (x39 x40 : Nat), x39 = x13.7.2 + 1 → (x40 = if x39 ≤ SN.k (PM.g x13) then x13.7.3 else x39) → ((True ∧ True ∧ True) ∧ (W_G_decP_0 x13 = W_G_decP_0 x13 ∧
W_G_decP_0 x13 = W_G_decP_0 x13 ∧ True) ∧ True ∧ True ∧ True ∧ True ∧ True ∧ True ∧ True ∧ True) ∧ ∀ x41, x41 = IntKind.wrap .u64 (x13.5 + (1 : Int)) → ∃ (x42 : PM), (((0 ≤ x42.5 ∧
x42.5 ≤ x42.4) ∧ x42.4 = (dgC xs).3 ∧ RI (RA.mk (SA.mk false 0 x42.1.1 x42.1.2 x42.1.3) x42.2 x42.3 (0 : Int)) xs ∧ x42.1.1 ≤ 100000) ∧ LC x42.6 (dWC xs).3 ∧ ∃ (x43 : List Int), LF
Value.bool 1 x42.7 (goneL x43) ∧ (↑(List.length x43) : Int) = x42.5 ∧ (dGC xs).2 = (rsC xs (1 : Int) (Int.toNat (x42.4 - x42.5)) x42.2 x42.3).2 ∧ ((rsC xs (1 : Int) (Int.toNat
(x42.4 - x42.5)) x42.2 x42.3).2 = (0 : Int) → dGC xs = LN.mk (rsC xs (1 : Int) (Int.toNat (x42.4 - x42.5)) x42.2 x42.3).1 (0 : Int) (x43 ++ (rsC xs (1 : Int) (Int.toNat (x42.4 -
x42.5)) x42.2 x42.3).3))) ∧ Int.toNat (x42.4 - x42.5) < Int.toNat (x13.4 - x13.5) ∧ (0 = 0 ∧ 0 = 0 ∧ 0 = 0 ∧ x42.4 = x13.4 ∧ x42.5 = x41 ∧ True) ∧ ((True ∧ (x42.6.1 = x13.6.1 ∧ 0 =
0 ∧ x42.6.2 = x13.6.2 ∧ x42.6.3 = x13.6.3) ∧ (x42.7.1 = false ∧ 0 = 0 ∧ x42.7.2 = x39 ∧ x42.7.3 = x40) ∧ (0 = 0 ∧ 0 = 0) ∧ (0 : Int) = 0 ∧ (0 : Int) = 0 ∧ (0 : Int) = 0 ∧ (0 : Int)
= 0 ∧ (0 : Int) = 0 ∧ True) ∧ (True ∧ (0 = 0 ∧ x42.1.1 = x13.1.1 ∧ x42.1.2 = x13.1.2) ∧ x42.2 = x16.1 ∧ x42.3 = x16.2 ∧ True) ∧ (x42.6.3 = x13.6.3 ∧ FlatL x42.6.4 ∧ x42.6.4 =
x13.6.4) ∧ (True ∧ (0 = 0 ∧ 0 = 0) ∧ (0 = 0 ∧ 0 = 0) ∧ (0 = 0 ∧ 0 = 0) ∧ (0 : Int) = 0 ∧ (0 : Int) = 0 ∧ (0 : Int) = 0 ∧ (0 : Int) = 0 ∧ (0 : Int) = 0 ∧ True) ∧ (True ∧ FlatL
x42.1.3 ∧ x42.1.3 = x13.1.3) ∧ (x42.7.3 = x40 ∧ FlatL x42.7.4 ∧ x42.7.4 = x13.7.4 ++ x38) ∧ True) ∧ True))) ∧ True) ∧ (¬x13.5 < x13.4 → (True ∧ (∃ (x44 : List Int), RI (RA.mk
(SA.mk false 0 x13.1.1 x13.1.2 x13.1.3) x13.2 x13.3 (8 : Int)) x44) ∧ (false = false ∧ nat_lit 0 = 0) ∧ x13.1.1 ≤ 1000000) ∧ ((0 = 0 ∧ Int.ofNat 8 = (8 : Int) ∧ True) ∧ (True ∧ (0
= 0 ∧ x13.1.1 = x13.1.1 ∧ x13.1.2 = x13.1.2) ∧ x13.2 = x13.2 ∧ x13.3 = x13.3 ∧ True) ∧ ZF x13.1.3 ∧ True) ∧ (∀ (x45 : RR), (∀ (x46 : List Int), RI (RA.mk (SA.mk false 0 x13.1.1
x13.1.2 x13.1.3) x13.2 x13.3 (8 : Int)) x46 → x45 = rdC x46 x13.2 x13.3 (Int.ofNat 8)) → ∃ (x47 : PM), (((0 ≤ x47.5 ∧ x47.5 ≤ x47.4) ∧ x47.4 = (dtC xs).3 ∧ RI (RA.mk (SA.mk false 0
x47.1.1 x47.1.2 x47.1.3) x47.2 x47.3 (0 : Int)) xs ∧ x47.1.1 ≤ 100000) ∧ LC x47.6 (dWC xs).3 ∧ ∃ (x48 : List Int), (LF Value.bool 1 x47.7 (goneL x48) ∧ ((dGC xs).2 = (0 : Int) →
x48 = (dGC xs).3)) ∧ ∃ (x49 : List Int), LF (Value.int IntKind.u8) 8 x47.8 (tipsL x49) ∧ (↑(List.length x49) : Int) = x47.5 ∧ (dTC xs).2 = (rsC xs (18446744073709551615 : Int)
(Int.toNat (x47.4 - x47.5)) x47.2 x47.3).2 ∧ ((rsC xs (18446744073709551615 : Int) (Int.toNat (x47.4 - x47.5)) x47.2 x47.3).2 = (0 : Int) → dTC xs = LN.mk (rsC xs
(18446744073709551615 : Int) (Int.toNat (x47.4 - x47.5)) x47.2 x47.3).1 (0 : Int) (x49 ++ (rsC xs (18446744073709551615 : Int) (Int.toNat (x47.4 - x47.5)) x47.2 x47.3).3))) ∧ ((0 =
0 ∧ 0 = 0 ∧ 0 = 0 ∧ x47.4 = x45.3 ∧ x47.5 = 0 ∧ True) ∧ ((True ∧ (x47.6.1 = x13.6.1 ∧ 0 = 0 ∧ x47.6.2 = x13.6.2 ∧ x47.6.3 = x13.6.3) ∧ (x47.7.1 = x13.7.1 ∧ 0 = 0 ∧ x47.7.2 =
x13.7.2 ∧ x47.7.3 = x13.7.3) ∧ (x47.8.1 = true ∧ x47.8.2 = 0 ∧ x47.8.3 = 0) ∧ (0 : Int) = 0 ∧ (0 : Int) = 0 ∧ (0 : Int) = 0 ∧ (0 : Int) = 0 ∧ (0 : Int) = 0 ∧ True) ∧ (True ∧ (0 = 0
∧ x47.1.1 = x13.1.1 ∧ x47.1.2 = x13.1.2) ∧ x47.2 = x45.1 ∧ x47.3 = x45.2 ∧ True) ∧ (x47.6.3 = x13.6.3 ∧ FlatL x47.6.4 ∧ x47.6.4 = x13.6.4) ∧ (True ∧ (0 = 0 ∧ 0 = 0) ∧ (0 = 0 ∧ 0 =
0) ∧ (0 = 0 ∧ 0 = 0) ∧ (0 : Int) = 0 ∧ (0 : Int) = 0 ∧ (0 : Int) = 0 ∧ (0 : Int) = 0 ∧ (0 : Int) = 0 ∧ True) ∧ (True ∧ FlatL x47.1.3 ∧ x47.1.3 = x13.1.3) ∧ (x47.7.3 = x13.7.3 ∧
FlatL x47.7.4 ∧ x47.7.4 = x13.7.4) ∧ (FlatL x47.8.4 ∧ True) ∧ True) ∧ True) ∧ ∀ (x50 : PM), (((0 ≤ x50.5 ∧ x50.5 ≤ x50.4) ∧ x50.4 = (dtC xs).3 ∧ RI (RA.mk (SA.mk false 0 x50.1.1
x50.1.2 x50.1.3) x50.2 x50.3 (0 : Int)) xs ∧ x50.1.1 ≤ 100000) ∧ LC x50.6 (dWC xs).3 ∧ ∃ (x51 : List Int), (LF Value.bool 1 x50.7 (goneL x51) ∧ ((dGC xs).2 = (0 : Int) → x51 = (dGC
xs).3)) ∧ ∃ (x52 : List Int), LF (Value.int IntKind.u8) 8 x50.8 (tipsL x52) ∧ (↑(List.length x52) : Int) = x50.5 ∧ (dTC xs).2 = (rsC xs (18446744073709551615 : Int) (Int.toNat
(x50.4 - x50.5)) x50.2 x50.3).2 ∧ ((rsC xs (18446744073709551615 : Int) (Int.toNat (x50.4 - x50.5)) x50.2 x50.3).2 = (0 : Int) → dTC xs = LN.mk (rsC xs (18446744073709551615 : Int)
(Int.toNat (x50.4 - x50.5)) x50.2 x50.3).1 (0 : Int) (x52 ++ (rsC xs (18446744073709551615 : Int) (Int.toNat (x50.4 - x50.5)) x50.2 x50.3).3))) → (x50.5 < x50.4 → (True ∧ (∃ (x53 :
List Int), RI (RA.mk (SA.mk false 0 x50.1.1 x50.1.2 x50.1.3) x50.2 x50.3 (18446744073709551615 : Int)) x53) ∧ (false = false ∧ nat_lit 0 = 0) ∧ x50.1.1 ≤ 1000000) ∧ ((0 = 0 ∧
Int.ofNat 18446744073709551615 = (18446744073709551615 : Int) ∧ True) ∧ (True ∧ (0 = 0 ∧ x50.1.1 = x50.1.1 ∧ x50.1.2 = x50.1.2) ∧ x50.2 = x50.2 ∧ x50.3 = x50.3 ∧ True) ∧ ZF x50.1.3
∧ True) ∧ (∀ (x54 : RR), (∀ (x55 : List Int), RI (RA.mk (SA.mk false 0 x50.1.1 x50.1.2 x50.1.3) x50.2 x50.3 (18446744073709551615 : Int)) x55 → x54 = rdC x55 x50.2 x50.3 (Int.ofNat
18446744073709551615)) → (True ∧ (0 ≤ x54.3 ∧ x54.3 < 18446744073709551616) ∧ True) ∧ ((x54.3 = x54.3 ∧ True) ∧ True) ∧ (∀ (x56 : Unit), True → (x50.8.1 = true → 8 ≤ List.length
[Value.iface 1000000007 (Value.int IntKind.u8 (x54.3 % (256 : Int))), Value.iface 1000000007 (Value.int IntKind.u8 (x54.3 / (256 : Int) % (256 : Int))), Value.iface 1000000007
(Value.int IntKind.u8 (x54.3 / (65536 : Int) % (256 : Int))), Value.iface 1000000007 (Value.int IntKind.u8 (x54.3 / (16777216 : Int) % (256 : Int))), Value.iface 1000000007
(Value.int IntKind.u8 (x54.3 / (4294967296 : Int) % (256 : Int))), Value.iface 1000000007 (Value.int IntKind.u8 (x54.3 / (1099511627776 : Int) % (256 : Int))), Value.iface
1000000007 (Value.int IntKind.u8 (x54.3 / (281474976710656 : Int) % (256 : Int))), Value.iface 1000000007 (Value.int IntKind.u8 (x54.3 / (72057594037927936 : Int) % (256 : Int)))]
∧ ∀ (x57 : List Value), x57 = lwin [Value.iface 1000000007 (Value.int IntKind.u8 (x54.3 % (256 : Int))), Value.iface 1000000007 (Value.int IntKind.u8 (x54.3 / (256 : Int) % (256 :
Int))), Value.iface 1000000007 (Value.int IntKind.u8 (x54.3 / (65536 : Int) % (256 : Int))), Value.iface 1000000007 (Value.int IntKind.u8 (x54.3 / (16777216 : Int) % (256 : Int))),
Value.iface 1000000007 (Value.int IntKind.u8 (x54.3 / (4294967296 : Int) % (256 : Int))), Value.iface 1000000007 (Value.int IntKind.u8 (x54.3 / (1099511627776 : Int) % (256 :
Int))), Value.iface 1000000007 (Value.int IntKind.u8 (x54.3 / (281474976710656 : Int) % (256 : Int))), Value.iface 1000000007 (Value.int IntKind.u8 (x54.3 / (72057594037927936 :
Int) % (256 : Int)))] 0 8 → (1 = 0 → ((True ∧ True ∧ True ∧ True) ∧ (W_G_decP_1 x50 = W_G_decP_1 x50 ∧ W_G_decP_1 x50 = W_G_decP_1 x50 ∧ W_G_decP_1 x50 = W_G_decP_1 x50 ∧ True) ∧
True ∧ True ∧ True ∧ True ∧ True ∧ True ∧ True ∧ True) ∧ ∀ x58, x58 = IntKind.wrap .u64 (x50.5 + (1 : Int)) → ∃ (x59 : PM), (((0 ≤ x59.5 ∧ x59.5 ≤ x59.4) ∧ x59.4 = (dtC xs).3 ∧ RI
(RA.mk (SA.mk false 0 x59.1.1 x59.1.2 x59.1.3) x59.2 x59.3 (0 : Int)) xs ∧ x59.1.1 ≤ 100000) ∧ LC x59.6 (dWC xs).3 ∧ ∃ (x60 : List Int), (LF Value.bool 1 x59.7 (goneL x60) ∧ ((dGC
xs).2 = (0 : Int) → x60 = (dGC xs).3)) ∧ ∃ (x61 : List Int), LF (Value.int IntKind.u8) 8 x59.8 (tipsL x61) ∧ (↑(List.length x61) : Int) = x59.5 ∧ (dTC xs).2 = (rsC xs
(18446744073709551615 : Int) (Int.toNat (x59.4 - x59.5)) x59.2 x59.3).2 ∧ ((rsC xs (18446744073709551615 : Int) (Int.toNat (x59.4 - x59.5)) x59.2 x59.3).2 = (0 : Int) → dTC xs =
LN.mk (rsC xs (18446744073709551615 : Int) (Int.toNat (x59.4 - x59.5)) x59.2 x59.3).1 (0 : Int) (x61 ++ (rsC xs (18446744073709551615 : Int) (Int.toNat (x59.4 - x59.5)) x59.2
x59.3).3))) ∧ Int.toNat (x59.4 - x59.5) < Int.toNat (x50.4 - x50.5) ∧ (0 = 0 ∧ 0 = 0 ∧ 0 = 0 ∧ x59.4 = x50.4 ∧ x59.5 = x58 ∧ True) ∧ ((True ∧ (x59.6.1 = x50.6.1 ∧ 0 = 0 ∧ x59.6.2 =
x50.6.2 ∧ x59.6.3 = x50.6.3) ∧ (x59.7.1 = x50.7.1 ∧ 0 = 0 ∧ x59.7.2 = x50.7.2 ∧ x59.7.3 = x50.7.3) ∧ (x59.8.1 = true ∧ x59.8.2 = 0 ∧ x59.8.3 = 0) ∧ (0 : Int) = 0 ∧ (0 : Int) = 0 ∧
(0 : Int) = 0 ∧ (0 : Int) = 0 ∧ (0 : Int) = 0 ∧ True) ∧ (True ∧ (0 = 0 ∧ x59.1.1 = x50.1.1 ∧ x59.1.2 = x50.1.2) ∧ x59.2 = x54.1 ∧ x59.3 = x54.2 ∧ True) ∧ (x59.6.3 = x50.6.3 ∧ FlatL
x59.6.4 ∧ x59.6.4 = x50.6.4) ∧ (True ∧ (0 = 0 ∧ 0 = 0) ∧ (0 = 0 ∧ 0 = 0) ∧ (0 = 0 ∧ 0 = 0) ∧ (0 : Int) = 0 ∧ (0 : Int) = 0 ∧ (0 : Int) = 0 ∧ (0 : Int) = 0 ∧ (0 : Int) = 0 ∧ True) ∧
(True ∧ FlatL x59.1.3 ∧ x59.1.3 = x50.1.3) ∧ (x59.7.3 = x50.7.3 ∧ FlatL x59.7.4 ∧ x59.7.4 = x50.7.4) ∧ (FlatL x59.8.4 ∧ True) ∧ True) ∧ True) ∧ (1 ≠ 0 → Few 1 8 ∧ ((True ∧ True ∧
True ∧ True) ∧ (W_G_decP_1 x50 = W_G_decP_1 x50 ∧ W_G_decP_1 x50 = W_G_decP_1 x50 ∧ W_G_decP_1 x50 = W_G_decP_1 x50 ∧ True) ∧ True ∧ True ∧ True ∧ True ∧ True ∧ True ∧ True ∧ True)
∧ ∀ x62, x62 = IntKind.wrap .u64 (x50.5 + (1 : Int)) → ∃ (x63 : PM), (((0 ≤ x63.5 ∧ x63.5 ≤ x63.4) ∧ x63.4 = (dtC xs).3 ∧ RI (RA.mk (SA.mk false 0 x63.1.1 x63.1.2 x63.1.3) x63.2
x63.3 (0 : Int)) xs ∧ x63.1.1 ≤ 100000) ∧ LC x63.6 (dWC xs).3 ∧ ∃ (x64 : List Int), (LF Value.bool 1 x63.7 (goneL x64) ∧ ((dGC xs).2 = (0 : Int) → x64 = (dGC xs).3)) ∧ ∃ (x65 :
List Int), LF (Value.int IntKind.u8) 8 x63.8 (tipsL x65) ∧ (↑(List.length x65) : Int) = x63.5 ∧ (dTC xs).2 = (rsC xs (18446744073709551615 : Int) (Int.toNat (x63.4 - x63.5)) x63.2
x63.3).2 ∧ ((rsC xs (18446744073709551615 : Int) (Int.toNat (x63.4 - x63.5)) x63.2 x63.3).2 = (0 : Int) → dTC xs = LN.mk (rsC xs (18446744073709551615 : Int) (Int.toNat (x63.4 -
x63.5)) x63.2 x63.3).1 (0 : Int) (x65 ++ (rsC xs (18446744073709551615 : Int) (Int.toNat (x63.4 - x63.5)) x63.2 x63.3).3))) ∧ Int.toNat (x63.4 - x63.5) < Int.toNat (x50.4 - x50.5)
∧ (0 = 0 ∧ 0 = 0 ∧ 0 = 0 ∧ x63.4 = x50.4 ∧ x63.5 = x62 ∧ True) ∧ ((True ∧ (x63.6.1 = x50.6.1 ∧ 0 = 0 ∧ x63.6.2 = x50.6.2 ∧ x63.6.3 = x50.6.3) ∧ (x63.7.1 = x50.7.1 ∧ 0 = 0 ∧ x63.7.2
= x50.7.2 ∧ x63.7.3 = x50.7.3) ∧ (x63.8.1 = false ∧ 0 = 0 ∧ x63.8.2 = 1 ∧ x63.8.3 = 1) ∧ (0 : Int) = 0 ∧ (0 : Int) = 0 ∧ (0 : Int) = 0 ∧ (0 : Int) = 0 ∧ (0 : Int) = 0 ∧ True) ∧
(True ∧ (0 = 0 ∧ x63.1.1 = x50.1.1 ∧ x63.1.2 = x50.1.2) ∧ x63.2 = x54.1 ∧ x63.3 = x54.2 ∧ True) ∧ (x63.6.3 = x50.6.3 ∧ FlatL x63.6.4 ∧ x63.6.4 = x50.6.4) ∧ (True ∧ (0 = 0 ∧ 0 = 0)
∧ (0 = 0 ∧ 0 = 0) ∧ (0 = 0 ∧ 0 = 0) ∧ (0 : Int) = 0 ∧ (0 : Int) = 0 ∧ (0 : Int) = 0 ∧ (0 : Int) = 0 ∧ (0 : Int) = 0 ∧ True) ∧ (True ∧ FlatL x63.1.3 ∧ x63.1.3 = x50.1.3) ∧ (x63.7.3
= x50.7.3 ∧ FlatL x63.7.4 ∧ x63.7.4 = x50.7.4) ∧ (x63.8.3 = 1 ∧ FlatL x63.8.4 ∧ x63.8.4 = x57) ∧ True) ∧ True)) ∧ (x50.8.1 = false → 8 ≤ List.length [Value.iface 1000000007
(Value.int IntKind.u8 (x54.3 % (256 : Int))), Value.iface 1000000007 (Value.int IntKind.u8 (x54.3 / (256 : Int) % (256 : Int))), Value.iface 1000000007 (Value.int IntKind.u8 (x54.3
/ (65536 : Int) % (256 : Int))), Value.iface 1000000007 (Value.int IntKind.u8 (x54.3 / (16777216 : Int) % (256 : Int))), Value.iface 1000000007 (Value.int IntKind.u8 (x54.3 /
(4294967296 : Int) % (256 : Int))), Value.iface 1000000007 (Value.int IntKind.u8 (x54.3 / (1099511627776 : Int) % (256 : Int))), Value.iface 1000000007 (Value.int IntKind.u8 (x54.3
/ (281474976710656 : Int) % (256 : Int))), Value.iface 1000000007 (Value.int IntKind.u8 (x54.3 / (72057594037927936 : Int) % (256 : Int)))] ∧ ∀ (x66 : List Value), x66 = lwin
[Value.iface 1000000007 (Value.int IntKind.u8 (x54.3 % (256 : Int))), Value.iface 1000000007 (Value.int IntKind.u8 (x54.3 / (256 : Int) % (256 : Int))), Value.iface 1000000007
(Value.int IntKind.u8 (x54.3 / (65536 : Int) % (256 : Int))), Value.iface 1000000007 (Value.int IntKind.u8 (x54.3 / (16777216 : Int) % (256 : Int))), Value.iface 1000000007
(Value.int IntKind.u8 (x54.3 / (4294967296 : Int) % (256 : Int))), Value.iface 1000000007 (Value.int IntKind.u8 (x54.3 / (1099511627776 : Int) % (256 : Int))), Value.iface
1000000007 (Value.int IntKind.u8 (x54.3 / (281474976710656 : Int) % (256 : Int))), Value.iface 1000000007 (Value.int IntKind.u8 (x54.3 / (72057594037927936 : Int) % (256 : Int)))]
0 8 → (0 = 0 ∧ List.length x50.8.4 = x50.8.2 * 8 ∧ x50.8.3 = x50.8.3 ∧ x50.8.2 ≤ x50.8.3 ∧ Few (x50.8.2 + 1) 8 ∧ lall oneK x66 = true) ∧ ∀ (x67 x68 : Nat), x67 = x50.8.2 + 1 → (x68
= if x67 ≤ SN.k (PM.t x50) then x50.8.3 else x67) → ((True ∧ True ∧ True ∧ True) ∧ (W_G_decP_1 x50 = W_G_decP_1 x50 ∧ W_G_decP_1 x50 = W_G_decP_1 x50 ∧ W_G_decP_1 x50 = W_G_decP_1
x50 ∧ True) ∧ True ∧ True ∧ True ∧ True ∧ True ∧ True ∧ True ∧ True) ∧ ∀ x69, x69 = IntKind.wrap .u64 (x50.5 + (1 : Int)) → ∃ (x70 : PM), (((0 ≤ x70.5 ∧ x70.5 ≤ x70.4) ∧ x70.4 =
(dtC xs).3 ∧ RI (RA.mk (SA.mk false 0 x70.1.1 x70.1.2 x70.1.3) x70.2 x70.3 (0 : Int)) xs ∧ x70.1.1 ≤ 100000) ∧ LC x70.6 (dWC xs).3 ∧ ∃ (x71 : List Int), (LF Value.bool 1 x70.7
(goneL x71) ∧ ((dGC xs).2 = (0 : Int) → x71 = (dGC xs).3)) ∧ ∃ (x72 : List Int), LF (Value.int IntKind.u8) 8 x70.8 (tipsL x72) ∧ (↑(List.length x72) : Int) = x70.5 ∧ (dTC xs).2 =
(rsC xs (18446744073709551615 : Int) (Int.toNat (x70.4 - x70.5)) x70.2 x70.3).2 ∧ ((rsC xs (18446744073709551615 : Int) (Int.toNat (x70.4 - x70.5)) x70.2 x70.3).2 = (0 : Int) → dTC
xs = LN.mk (rsC xs (18446744073709551615 : Int) (Int.toNat (x70.4 - x70.5)) x70.2 x70.3).1 (0 : Int) (x72 ++ (rsC xs (18446744073709551615 : Int) (Int.toNat (x70.4 - x70.5)) x70.2
x70.3).3))) ∧ Int.toNat (x70.4 - x70.5) < Int.toNat (x50.4 - x50.5) ∧ (0 = 0 ∧ 0 = 0 ∧ 0 = 0 ∧ x70.4 = x50.4 ∧ x70.5 = x69 ∧ True) ∧ ((True ∧ (x70.6.1 = x50.6.1 ∧ 0 = 0 ∧ x70.6.2 =
x50.6.2 ∧ x70.6.3 = x50.6.3) ∧ (x70.7.1 = x50.7.1 ∧ 0 = 0 ∧ x70.7.2 = x50.7.2 ∧ x70.7.3 = x50.7.3) ∧ (x70.8.1 = false ∧ 0 = 0 ∧ x70.8.2 = x67 ∧ x70.8.3 = x68) ∧ (0 : Int) = 0 ∧ (0
: Int) = 0 ∧ (0 : Int) = 0 ∧ (0 : Int) = 0 ∧ (0 : Int) = 0 ∧ True) ∧ (True ∧ (0 = 0 ∧ x70.1.1 = x50.1.1 ∧ x70.1.2 = x50.1.2) ∧ x70.2 = x54.1 ∧ x70.3 = x54.2 ∧ True) ∧ (x70.6.3 =
x50.6.3 ∧ FlatL x70.6.4 ∧ x70.6.4 = x50.6.4) ∧ (True ∧ (0 = 0 ∧ 0 = 0) ∧ (0 = 0 ∧ 0 = 0) ∧ (0 = 0 ∧ 0 = 0) ∧ (0 : Int) = 0 ∧ (0 : Int) = 0 ∧ (0 : Int) = 0 ∧ (0 : Int) = 0 ∧ (0 :
Int) = 0 ∧ True) ∧ (True ∧ FlatL x70.1.3 ∧ x70.1.3 = x50.1.3) ∧ (x70.7.3 = x50.7.3 ∧ FlatL x70.7.4 ∧ x70.7.4 = x50.7.4) ∧ (x70.8.3 = x68 ∧ FlatL x70.8.4 ∧ x70.8.4 = x50.8.4 ++ x66)
∧ True) ∧ True)) ∧ True) ∧ True) ∧ (¬x50.5 < x50.4 → (True ∧ (∃ (x73 : List Int), RI (RA.mk (SA.mk false 0 x50.1.1 x50.1.2 x50.1.3) x50.2 x50.3 (18446744073709551615 : Int)) x73) ∧
(false = false ∧ nat_lit 0 = 0 ∧ Int.ofNat 18446744073709551615 = (18446744073709551615 : Int)) ∧ x50.1.1 ≤ 1000000) ∧ ((0 = 0 ∧ True) ∧ (True ∧ (0 = 0 ∧ x50.1.1 = x50.1.1 ∧
x50.1.2 = x50.1.2) ∧ x50.2 = x50.2 ∧ x50.3 = x50.3 ∧ True) ∧ ZF x50.1.3 ∧ True) ∧ (∀ (x74 : RR), (∀ (x75 : List Int), RI (RA.mk (SA.mk false 0 x50.1.1 x50.1.2 x50.1.3) x50.2 x50.3
(18446744073709551615 : Int)) x75 → x74 = rdC x75 x50.2 x50.3 (Int.ofNat 18446744073709551615)) → (True ∧ (∃ (x76 : List Int), RI (RA.mk (SA.mk false 0 x50.1.1 x50.1.2 x50.1.3)
x74.1 x74.2 (18446744073709551615 : Int)) x76) ∧ (false = false ∧ nat_lit 0 = 0 ∧ Int.ofNat 18446744073709551615 = (18446744073709551615 : Int)) ∧ x50.1.1 ≤ 1000000) ∧ ((0 = 0 ∧
True) ∧ (True ∧ (0 = 0 ∧ x50.1.1 = x50.1.1 ∧ x50.1.2 = x50.1.2) ∧ x74.1 = x74.1 ∧ x74.2 = x74.2 ∧ True) ∧ ZF x50.1.3 ∧ True) ∧ (∀ (x77 : RR), (∀ (x78 : List Int), RI (RA.mk (SA.mk
false 0 x50.1.1 x50.1.2 x50.1.3) x74.1 x74.2 (18446744073709551615 : Int)) x78 → x77 = rdC x78 x74.1 x74.2 (Int.ofNat 18446744073709551615)) → (True ∧ (∃ (x79 : List Int), RI
(RA.mk (SA.mk false 0 x50.1.1 x50.1.2 x50.1.3) x77.1 x77.2 (18446744073709551615 : Int)) x79) ∧ (false = false ∧ nat_lit 0 = 0 ∧ Int.ofNat 18446744073709551615 =
(18446744073709551615 : Int)) ∧ x50.1.1 ≤ 1000000) ∧ ((0 = 0 ∧ True) ∧ (True ∧ (0 = 0 ∧ x50.1.1 = x50.1.1 ∧ x50.1.2 = x50.1.2) ∧ x77.1 = x77.1 ∧ x77.2 = x77.2 ∧ True) ∧ ZF x50.1.3
∧ True) ∧ (∀ (x80 : RR), (∀ (x81 : List Int), RI (RA.mk (SA.mk false 0 x50.1.1 x50.1.2 x50.1.3) x77.1 x77.2 (18446744073709551615 : Int)) x81 → x80 = rdC x81 x77.1 x77.2 (Int.ofNat
18446744073709551615)) → (True ∧ (∃ (x82 : List Int), RI (RA.mk (SA.mk false 0 x50.1.1 x50.1.2 x50.1.3) x80.1 x80.2 (18446744073709551615 : Int)) x82) ∧ (false = false ∧ nat_lit 0
= 0 ∧ Int.ofNat 18446744073709551615 = (18446744073709551615 : Int)) ∧ x50.1.1 ≤ 1000000) ∧ ((0 = 0 ∧ True) ∧ (True ∧ (0 = 0 ∧ x50.1.1 = x50.1.1 ∧ x50.1.2 = x50.1.2) ∧ x80.1 =
x80.1 ∧ x80.2 = x80.2 ∧ True) ∧ ZF x50.1.3 ∧ True) ∧ (∀ (x83 : RR), (∀ (x84 : List Int), RI (RA.mk (SA.mk false 0 x50.1.1 x50.1.2 x50.1.3) x80.1 x80.2 (18446744073709551615 : Int))
x84 → x83 = rdC x84 x80.1 x80.2 (Int.ofNat 18446744073709551615)) → (True ∧ (∃ (x85 : List Int), RI (RA.mk (SA.mk false 0 x50.1.1 x50.1.2 x50.1.3) x83.1 x83.2 (18446744073709551615
: Int)) x85) ∧ (false = false ∧ nat_lit 0 = 0) ∧ x50.1.1 ≤ 1000000) ∧ ((0 = 0 ∧ Int.ofNat 18446744073709551615 = (18446744073709551615 : Int) ∧ True) ∧ (True ∧ (0 = 0 ∧ x50.1.1 =
x50.1.1 ∧ x50.1.2 = x50.1.2) ∧ x83.1 = x83.1 ∧ x83.2 = x83.2 ∧ True) ∧ ZF x50.1.3 ∧ True) ∧ (∀ (x86 : RR), (∀ (x87 : List Int), RI (RA.mk (SA.mk false 0 x50.1.1 x50.1.2 x50.1.3)
x83.1 x83.2 (18446744073709551615 : Int)) x87 → x86 = rdC x87 x83.1 x83.2 (Int.ofNat 18446744073709551615)) → (x86.2 ≠ 0 → (x86.2 ≠ 0 → ∃ (x88 : EE), (x88.1 ≠ 0 ∧ ∀ (x89 : List
Int), SB a.1 a.2 a.3 a.4 a.5 x89 → endC x89 (r4C x89).1 (r4C x89).2 = x88.1) ∧ (((0 = 0 ∧ 0 = 0) ∧ (0 = 0 ∧ 0 = 0) ∧ (0 = 0 ∧ 0 = 0) ∧ (0 : Int) = 0 ∧ (0 : Int) = 0 ∧ (0 : Int) = 0
∧ (0 : Int) = 0 ∧ (0 : Int) = 0 ∧ True) ∧ x88.1 = x86.2 ∧ True) ∧ True) ∧ (¬x86.2 ≠ 0 → ∃ (x90 : PR), (∀ (x91 : List Int), SB a.1 a.2 a.3 a.4 a.5 x91 → endC x91 (r4C x91).1 (r4C
x91).2 = (0 : Int) ∧ (LC x90.1 (dWC x91).3 ∧ LF Value.bool 1 x90.2 (goneL (dGC x91).3) ∧ LF (Value.int IntKind.u8) 8 x90.3 (tipsL (dTC x91).3)) ∧ x90.4 = unfI (r0C x91).3 ∧ x90.5 =
unfI (r1C x91).3 ∧ x90.6 = unfI (r2C x91).3 ∧ x90.7 = unfI (r3C x91).3 ∧ x90.8 = (r4C x91).3) ∧ (((x90.1.1 = x50.6.1 ∧ 0 = 0 ∧ x90.1.2 = x50.6.2 ∧ x90.1.3 = x50.6.3) ∧ (x90.2.1 =
x50.7.1 ∧ 0 = 0 ∧ x90.2.2 = x50.7.2 ∧ x90.2.3 = x50.7.3) ∧ (x90.3.1 = x50.8.1 ∧ 0 = 0 ∧ x90.3.2 = x50.8.2 ∧ x90.3.3 = x50.8.3) ∧ x90.4 = unfI x74.3 ∧ x90.5 = unfI x77.3 ∧ x90.6 =
unfI x80.3 ∧ x90.7 = unfI x83.3 ∧ x90.8 = x86.3 ∧ True) ∧ (0 : Int) = 0 ∧ True) ∧ (x90.1.3 = x50.6.3 ∧ FlatL x90.1.4 ∧ x90.1.4 = x50.6.4) ∧ (x90.2.3 = x50.7.3 ∧ FlatL x90.2.4 ∧
x90.2.4 = x50.7.4) ∧ (x90.3.3 = x50.8.3 ∧ FlatL x90.3.4 ∧ x90.3.4 = x50.8.4) ∧ True)) ∧ (¬x86.2 ≠ 0 → ∀ (x92 : Int), x92 = (↑x50.1.1 : Int) → ∀ x93, x93 = IntKind.wrap .i64 (x92 -
x86.1) → (True ∧ True ∧ True ∧ True ∧ True ∧ True ∧ True ∧ True ∧ True ∧ True ∧ True ∧ True) ∧ ((0 : Int) < x93 → ∃ (x94 : EE), (x94.1 ≠ 0 ∧ ∀ (x95 : List Int), SB a.1 a.2 a.3 a.4
a.5 x95 → endC x95 (r4C x95).1 (r4C x95).2 = x94.1) ∧ (((0 = 0 ∧ 0 = 0) ∧ (0 = 0 ∧ 0 = 0) ∧ (0 = 0 ∧ 0 = 0) ∧ (0 : Int) = 0 ∧ (0 : Int) = 0 ∧ (0 : Int) = 0 ∧ (0 : Int) = 0 ∧ (0 :
Int) = 0 ∧ True) ∧ x94.1 = 5 ∧ True) ∧ True) ∧ (¬(0 : Int) < x93 → ∃ (x96 : PR), (∀ (x97 : List Int), SB a.1 a.2 a.3 a.4 a.5 x97 → endC x97 (r4C x97).1 (r4C x97).2 = (0 : Int) ∧
(LC x96.1 (dWC x97).3 ∧ LF Value.bool 1 x96.2 (goneL (dGC x97).3) ∧ LF (Value.int IntKind.u8) 8 x96.3 (tipsL (dTC x97).3)) ∧ x96.4 = unfI (r0C x97).3 ∧ x96.5 = unfI (r1C x97).3 ∧
x96.6 = unfI (r2C x97).3 ∧ x96.7 = unfI (r3C x97).3 ∧ x96.8 = (r4C x97).3) ∧ (((x96.1.1 = x50.6.1 ∧ 0 = 0 ∧ x96.1.2 = x50.6.2 ∧ x96.1.3 = x50.6.3) ∧ (x96.2.1 = x50.7.1 ∧ 0 = 0 ∧
x96.2.2 = x50.7.2 ∧ x96.2.3 = x50.7.3) ∧ (x96.3.1 = x50.8.1 ∧ 0 = 0 ∧ x96.3.2 = x50.8.2 ∧ x96.3.3 = x50.8.3) ∧ x96.4 = unfI x74.3 ∧ x96.5 = unfI x77.3 ∧ x96.6 = unfI x80.3 ∧ x96.7
= unfI x83.3 ∧ x96.8 = x86.3 ∧ True) ∧ (0 : Int) = 0 ∧ True) ∧ (x96.1.3 = x50.6.3 ∧ FlatL x96.1.4 ∧ x96.1.4 = x50.6.4) ∧ (x96.2.3 = x50.7.3 ∧ FlatL x96.2.4 ∧ x96.2.4 = x50.7.4) ∧
(x96.3.3 = x50.8.3 ∧ FlatL x96.3.4 ∧ x96.3.4 = x50.8.4) ∧ True))) ∧ True) ∧ True) ∧ True) ∧ True) ∧ True)) ∧ True)) ∧ True)) ∧ True) ∧ True) := by kernel_rfl
structure Fw (r T : RR) : Prop where
  e : r.e = T.e
  at_ : r.e = 0 → r = T
  n : r.n = T.n
theorem fw_rd (xs : List Int) {p e q f : Int} (m : Int) (h1 : e = f) (h2 : e = 0 → p = q) : Fw (rdC xs p e m) (rdC xs q f m) := by
  subst h1
  by_cases he : e = 0
  · rw [h2 he]; exact ⟨rfl, fun _ => rfl, rfl⟩
  · rw [rdC_ne he, rdC_ne he]; exact ⟨rfl, fun h => absurd h he, rfl⟩
theorem Fw.rd {r T : RR} (h : Fw r T) (xs : List Int) (m : Int) : Fw (rdC xs r.at_ r.e m) (rdC xs T.at_ T.e m) := fw_rd xs m h.e fun h0 => by rw [h.at_ h0]
theorem fol_more {xs ys : List Int} {m : Int} {T : LN} {p e n i z : Int} {r : RR} (hlt : i < n) (hr : r = rdC xs p e m) (hz : z = i + 1) (hT : Fol T (rsC xs m (n - i).toNat p e) ys) : Fol T (rsC xs m (n - z).toNat r.at_ r.e) (ys ++ [r.n]) := by
  obtain ⟨h1, h2⟩ := hT
  by_cases he : e = 0
  · subst he hz
    rw [show (n - i).toNat = (n - (i + 1)).toNat + 1 by omega, rsC_succ, ← hr] at h1 h2
    refine ⟨h1, fun h0 => ?_⟩
    rw [h2 h0]; simp
  · rw [rsC_ne _ _ _ _ he] at h1
    have hr : r = ⟨p, e, 0⟩ := by rw [hr, rdC_ne he]
    rw [hr]
    show Fol T (rsC xs m (n - z).toNat p e) _
    rw [rsC_ne _ _ _ _ he]
    exact ⟨h1, fun h0 => absurd h0 he⟩
theorem fol_end {xs ys : List Int} {m : Int} {T : LN} {p e n i : Int} (h : ¬ i < n) (hT : Fol T (rsC xs m (n - i).toNat p e) ys) : e = T.e ∧ (e = 0 → T = ⟨p, 0, ys⟩) := by
  rw [show (n - i).toNat = 0 by omega] at hT
  obtain ⟨h1, h2⟩ := hT
  exact ⟨h1.symm, fun h0 => by have := h2 h0; rw [this]; simp [rsC]⟩
theorem rdC_e {xs : List Int} {p e m : Int} (h : e ≠ 0) : (rdC xs p e m).e = e := by rw [rdC_ne h]
theorem rsC_e {xs : List Int} {p e m : Int} {n : Nat} (h : e ≠ 0) : (rsC xs m n p e).e = e := by rw [rsC_ne _ _ _ _ h]
theorem dG_sticky {xs : List Int} {e : Int} (h : (dWC xs).e = e) (he : e ≠ 0) : (dGC xs).e = e := by
  have h1 : (dgC xs).e = e := by unfold dgC; rw [h, rdC_e he]
  unfold dGC; rw [h1, rsC_e he]
theorem dT_sticky {xs : List Int} {e : Int} (h : (dGC xs).e = e) (he : e ≠ 0) : (dTC xs).e = e := by
  have h1 : (dtC xs).e = e := by unfold dtC; rw [h, rdC_e he]
  unfold dTC; rw [h1, rsC_e he]
theorem r4_sticky {xs : List Int} {e : Int} (h : (dTC xs).e = e) (he : e ≠ 0) : (r4C xs).e = e := by
  have h0 : (r0C xs).e = e := by unfold r0C; rw [h, rdC_e he]
  have h1 : (r1C xs).e = e := by unfold r1C; rw [h0, rdC_e he]
  have h2 : (r2C xs).e = e := by unfold r2C; rw [h1, rdC_e he]
  have h3 : (r3C xs).e = e := by unfold r3C; rw [h2, rdC_e he]
  unfold r4C; rw [h3, rdC_e he]
theorem g_decP (a : SA) (xs : List Int) (hx : Sli (Value.int .u8) 1 a.n a.o a.l a.k a.c xs) (hb : Byts8 xs) (hl : a.l ≤ 100000) : G_decP a xs := by
  have fl := hx.flat
  have f0 := flatL_nil
  have hlen : xs.length = a.l := by have := hx.len; omega
  rw [vc_decP]
  refine ⟨⟨trivial, ⟨xs, hx⟩, by omega, by decide, by decide⟩, ?_, fun b hbb => ?_, trivial⟩
  · repeat' first
      | with_reducible apply And.intro
      | exact trivial
      | exact rfl
      | assumption
  obtain ⟨_, hbb⟩ := hbb
  have hob := hbb xs hx
  have fb := hob.flat
  have hbl := hob.l
  have hri : ∀ {p e m : Int}, 0 ≤ p → p ≤ b.l → 0 ≤ m → m < 18446744073709551616 → RI ⟨⟨false, 0, b.l, b.k, b.c⟩, p, e, m⟩ xs := fun h0 h1 h2 h3 => ⟨hob.sli, hb, h0, h1, h2, h3⟩
  have err : ∀ e' : Int, endC xs (r4C xs).at_ (r4C xs).e = e' → ∀ ys : List Int, Sli (Value.int .u8) 1 a.n a.o a.l a.k a.c ys → endC ys (r4C ys).at_ (r4C ys).e = e' := fun e' h1 ys hy => by rw [Sli.uniqI hy hx]; exact h1
  refine ⟨⟨trivial, ⟨xs, hri (by decide) (by omega) (by decide) (by decide)⟩, ⟨rfl, rfl⟩, by omega, by decide⟩, ?_, fun w hw => ⟨fun he => ?_, fun he => ?_⟩, trivial⟩
  · repeat' first
      | with_reducible apply And.intro
      | exact trivial
      | exact rfl
      | assumption
  · have hw := (hw xs (hri (by decide) (by omega) (by decide) (by decide))).1
    have h1 : (dWC xs).e = w.e := hw.symm
    refine ⟨⟨w.e⟩, ⟨he, err _ ?_⟩, ?_⟩
    · rw [r4_sticky (dT_sticky (dG_sticky h1 he) he) he]; exact endC_err he
    · repeat' first
        | with_reducible apply And.intro
        | exact trivial
        | exact rfl
        | assumption
  have he := Decidable.not_not.1 he
  obtain ⟨hw1, hw2⟩ := hw xs (hri (by decide) (by omega) (by decide) (by decide))
  obtain ⟨hw3, hw4, hw5⟩ := hw2 he
  have d1 : (dWC xs).e = 0 := hw1.symm.trans he
  have d2 : w.at_ = (dWC xs).at_ := hw4
  have hv : LC w.s (dWC xs).ws := hw5
  have fv := hv.flat
  have hv0 : 0 ≤ (dvC xs).at_ ∧ (dvC xs).at_ ≤ xs.length := by
    obtain ⟨_, _, h3, h4⟩ := rdC_in (e := 0) hb (show (0 : Int) ≤ 0 by decide) (by omega) (show (0 : Int) ≤ 64 by decide)
    exact ⟨h3, h4⟩
  obtain ⟨w0, w1⟩ := wsC_in hb (dvC xs).n.toNat (e := (dvC xs).e) hv0.1 hv0.2
  have w0 : 0 ≤ w.at_ := by rw [d2]; exact w0
  have w1 : w.at_ ≤ b.l := by rw [d2, hbl]; exact w1
  refine ⟨⟨trivial, ⟨xs, hri w0 w1 (by decide) (by decide)⟩, ⟨rfl, rfl⟩, by omega⟩, ?_, fun r h => ?_, trivial⟩
  · repeat' first
      | with_reducible apply And.intro
      | exact trivial
      | exact rfl
      | assumption
  have h0 : r = rdC xs w.at_ w.re 8 := h xs (hri w0 w1 (by decide) (by decide))
  have h : r = dgC xs := by rw [h0, d2, hw3]; unfold dgC; rw [d1]
  obtain ⟨n0, n1, n2, n3⟩ : 0 ≤ r.n ∧ r.n ≤ 8 ∧ 0 ≤ r.at_ ∧ r.at_ ≤ b.l := by rw [h0, hbl]; exact rdC_in hb w0 (by omega) (by decide)
  have bg : (dgC xs).n ≤ 8 := by rw [← h]; exact n1
  refine ⟨⟨b, r.at_, r.e, r.n, 0, w.s, ⟨true, 0, 0, []⟩, ⟨true, 0, 0, []⟩⟩, ⟨⟨⟨by show (0 : Int) ≤ 0; decide, n0⟩, by show r.n = _; rw [h], hri n2 n3 (by decide) (by decide), by show b.l ≤ 100000; omega⟩, hv, [], .none, rfl, ?_⟩, ?_, ?_⟩
  · show Fol (dGC xs) (rsC xs 1 (r.n - 0).toNat r.at_ r.e) []
    rw [Int.sub_zero, h]
    refine ⟨rfl, fun h0 => ?_⟩
    show rsC xs 1 (dgC xs).n.toNat (dgC xs).at_ (dgC xs).e = _
    rw [List.nil_append, ← h0]
  · repeat' first
      | with_reducible apply And.intro
      | exact trivial
      | exact rfl
      | assumption
  clear hri
  rintro ⟨b, p, e, n, i, v, g, t⟩ ⟨⟨⟨hi0, hi1⟩, hn, hR, hb5⟩, hv, ys, hg, hyl, hT⟩
  dsimp only at hi0 hi1 hn hR hb5 hv hg hyl hT ⊢
  have hri : ∀ {p e m : Int}, 0 ≤ p → p ≤ b.l → 0 ≤ m → m < 18446744073709551616 → RI ⟨⟨false, 0, b.l, b.k, b.c⟩, p, e, m⟩ xs := fun h0 h1 h2 h3 => ⟨hR.sl, hb, h0, h1, h2, h3⟩
  have hp0 : 0 ≤ p := hR.at0
  have hp1 : p ≤ b.l := hR.at1
  have hbl : b.l = xs.length := by have := hR.sl.len; dsimp only at this; omega
  have hT : Fol (dGC xs) (rsC xs 1 (n - i).toNat p e) ys := hT
  have fb : FlatL b.c := hR.sl.flat
  have fv := hv.flat
  have fg := hg.he.flatB
  refine ⟨fun hlt => ⟨⟨trivial, ⟨xs, hri hp0 hp1 (by decide) (by decide)⟩, ⟨rfl, rfl⟩, by omega⟩, ?_, fun r hr => ?_, trivial⟩, fun hge => ?_⟩
  · repeat' first
      | with_reducible apply And.intro
      | exact trivial
      | exact rfl
      | assumption
  · have hr : r = rdC xs p e 1 := hr xs (hri hp0 hp1 (by decide) (by decide))
    obtain ⟨_, _, k2, k3⟩ : 0 ≤ r.n ∧ r.n ≤ 1 ∧ 0 ≤ r.at_ ∧ r.at_ ≤ b.l := by rw [hr, hbl]; exact rdC_in hb hp0 (by omega) (by decide)
    refine ⟨fun hr1 => ?_, fun hr1 => ?_⟩
    · have ed : decide (r.n = 1) = true := by simp [hr1]
      have eg : ∀ ys : List Int, goneL (ys ++ [r.n]) = goneL ys ++ [true] := fun ys => by rw [gone_snoc, ed]
      refine ⟨fun hnn => ⟨by decide, fun vs hvs => ⟨fun h => absurd h (by decide), fun _ => ⟨by unfold Few; omega, ?_, fun z hz => ?_⟩⟩⟩, fun hnn => ⟨by decide, fun vs hvs => ⟨⟨rfl, hg.len, rfl, hg.le, by unfold Few; have := hg.l; rw [gone_len] at this; omega, by rw [hvs]; rfl⟩, fun l' k' hl' hk' => ⟨?_, fun z hz => ?_⟩⟩⟩⟩
      · repeat' first
          | with_reducible apply And.intro
          | exact trivial
          | exact rfl
          | assumption
      · rw [wrap_u64] at hz
        have hz : z = i + 1 := by omega
        have hvw : HW Value.bool vs [true] := by rw [hvs]; exact HW.oneV
        have hy0 := (hg.nil hnn).1
        have h1 : LF Value.bool 1 ⟨false, 1, 1, vs⟩ (goneL (ys ++ [r.n])) := by rw [eg, hy0]; exact LF.one hvw rfl
        have f1 := h1.he.flatB
        refine ⟨⟨b, r.at_, r.e, n, z, v, ⟨false, 1, 1, vs⟩, t⟩, ⟨⟨⟨by show 0 ≤ z; omega, by show z ≤ n; omega⟩, hn, hri k2 k3 (by decide) (by decide), hb5⟩, hv, ys ++ [r.n], h1, by show (((ys ++ [r.n]).length : Nat) : Int) = z; simp; omega, fol_more hlt hr hz hT⟩, by show (n - z).toNat < (n - i).toNat; omega, ?_⟩
        repeat' first
          | with_reducible apply And.intro
          | exact trivial
          | exact rfl
          | assumption
      · repeat' first
          | with_reducible apply And.intro
          | exact trivial
          | exact rfl
          | assumption
      · rw [wrap_u64] at hz
        have hz : z = i + 1 := by omega
        have hvw : HW Value.bool vs [true] := by rw [hvs]; exact HW.oneV
        have h1 : LF Value.bool 1 ⟨false, l', k', g.c ++ vs⟩ (goneL (ys ++ [r.n])) := by rw [eg]; exact hg.snoc hvw rfl hl' hk'
        have f1 := h1.he.flatB
        refine ⟨⟨b, r.at_, r.e, n, z, v, ⟨false, l', k', g.c ++ vs⟩, t⟩, ⟨⟨⟨by show 0 ≤ z; omega, by show z ≤ n; omega⟩, hn, hri k2 k3 (by decide) (by decide), hb5⟩, hv, ys ++ [r.n], h1, by show (((ys ++ [r.n]).length : Nat) : Int) = z; simp; omega, fol_more hlt hr hz hT⟩, by show (n - z).toNat < (n - i).toNat; omega, ?_⟩
        repeat' first
          | with_reducible apply And.intro
          | exact trivial
          | exact rfl
          | assumption
    · have ed : decide (r.n = 1) = false := by simp [hr1]
      have eg : ∀ ys : List Int, goneL (ys ++ [r.n]) = goneL ys ++ [false] := fun ys => by rw [gone_snoc, ed]
      refine ⟨fun hnn => ⟨by decide, fun vs hvs => ⟨fun h => absurd h (by decide), fun _ => ⟨by unfold Few; omega, ?_, fun z hz => ?_⟩⟩⟩, fun hnn => ⟨by decide, fun vs hvs => ⟨⟨rfl, hg.len, rfl, hg.le, by unfold Few; have := hg.l; rw [gone_len] at this; omega, by rw [hvs]; rfl⟩, fun l' k' hl' hk' => ⟨?_, fun z hz => ?_⟩⟩⟩⟩
      · repeat' first
          | with_reducible apply And.intro
          | exact trivial
          | exact rfl
          | assumption
      · rw [wrap_u64] at hz
        have hz : z = i + 1 := by omega
        have hvw : HW Value.bool vs [false] := by rw [hvs]; exact HW.oneV
        have hy0 := (hg.nil hnn).1
        have h1 : LF Value.bool 1 ⟨false, 1, 1, vs⟩ (goneL (ys ++ [r.n])) := by rw [eg, hy0]; exact LF.one hvw rfl
        have f1 := h1.he.flatB
        refine ⟨⟨b, r.at_, r.e, n, z, v, ⟨false, 1, 1, vs⟩, t⟩, ⟨⟨⟨by show 0 ≤ z; omega, by show z ≤ n; omega⟩, hn, hri k2 k3 (by decide) (by decide), hb5⟩, hv, ys ++ [r.n], h1, by show (((ys ++ [r.n]).length : Nat) : Int) = z; simp; omega, fol_more hlt hr hz hT⟩, by show (n - z).toNat < (n - i).toNat; omega, ?_⟩
        repeat' first
          | with_reducible apply And.intro
          | exact trivial
          | exact rfl
          | assumption
      · repeat' first
          | with_reducible apply And.intro
          | exact trivial
          | exact rfl
          | assumption
      · rw [wrap_u64] at hz
        have hz : z = i + 1 := by omega
        have hvw : HW Value.bool vs [false] := by rw [hvs]; exact HW.oneV
        have h1 : LF Value.bool 1 ⟨false, l', k', g.c ++ vs⟩ (goneL (ys ++ [r.n])) := by rw [eg]; exact hg.snoc hvw rfl hl' hk'
        have f1 := h1.he.flatB
        refine ⟨⟨b, r.at_, r.e, n, z, v, ⟨false, l', k', g.c ++ vs⟩, t⟩, ⟨⟨⟨by show 0 ≤ z; omega, by show z ≤ n; omega⟩, hn, hri k2 k3 (by decide) (by decide), hb5⟩, hv, ys ++ [r.n], h1, by show (((ys ++ [r.n]).length : Nat) : Int) = z; simp; omega, fol_more hlt hr hz hT⟩, by show (n - z).toNat < (n - i).toNat; omega, ?_⟩
        repeat' first
          | with_reducible apply And.intro
          | exact trivial
          | exact rfl
          | assumption
  obtain ⟨ee, eE⟩ := fol_end hge hT
  refine ⟨⟨trivial, ⟨xs, hri hp0 hp1 (by decide) (by decide)⟩, ⟨rfl, rfl⟩, by omega⟩, ?_, fun r h => ?_, trivial⟩
  · repeat' first
      | with_reducible apply And.intro
      | exact trivial
      | exact rfl
      | assumption
  have h0 : r = rdC xs p e 8 := h xs (hri hp0 hp1 (by decide) (by decide))
  have hf : Fw r (dtC xs) := by rw [h0]; exact fw_rd xs 8 ee fun h => by rw [eE h]
  obtain ⟨n0, n1, n2, n3⟩ : 0 ≤ r.n ∧ r.n ≤ 8 ∧ 0 ≤ r.at_ ∧ r.at_ ≤ b.l := by rw [h0, hbl]; exact rdC_in hb hp0 (by omega) (by decide)
  have bt : (dtC xs).n ≤ 8 := by rw [← hf.n]; exact n1
  have hgs : (dGC xs).e = 0 → ys = (dGC xs).ns := fun h => by rw [eE (ee.trans h)]
  refine ⟨⟨b, r.at_, r.e, r.n, 0, v, g, ⟨true, 0, 0, []⟩⟩, ⟨⟨⟨by show (0 : Int) ≤ 0; decide, n0⟩, hf.n, hri n2 n3 (by decide) (by decide), hb5⟩, hv, ys, ⟨hg, hgs⟩, [], .none, rfl, ?_⟩, ?_, ?_⟩
  · show Fol (dTC xs) (rsC xs 18446744073709551615 (r.n - 0).toNat r.at_ r.e) []
    rw [Int.sub_zero]
    by_cases hz : r.e = 0
    · rw [hf.at_ hz]
      refine ⟨rfl, fun h0 => ?_⟩
      show rsC xs 18446744073709551615 (dtC xs).n.toNat (dtC xs).at_ (dtC xs).e = _
      rw [List.nil_append, ← h0]
    · rw [rsC_ne _ _ _ _ hz]
      refine ⟨?_, fun h => absurd h hz⟩
      show (dTC xs).e = r.e
      unfold dTC
      have := hf.e
      rw [rsC_e (by rw [← this]; exact hz), this]
  · repeat' first
      | with_reducible apply And.intro
      | exact trivial
      | exact rfl
      | assumption
  clear hri hT hg hgs hf h h0 hyl hR hp0 hp1 hbl ee eE
  rintro ⟨b, p, e, n, i, v, g, t⟩ ⟨⟨⟨hi0, hi1⟩, hn, hR, hb5⟩, hv, gs, ⟨hg, hgs⟩, ys, ht, hyl, hT⟩
  dsimp only at hi0 hi1 hn hR hb5 hv hg ht hyl hT ⊢
  have hri : ∀ {p e m : Int}, 0 ≤ p → p ≤ b.l → 0 ≤ m → m < 18446744073709551616 → RI ⟨⟨false, 0, b.l, b.k, b.c⟩, p, e, m⟩ xs := fun h0 h1 h2 h3 => ⟨hR.sl, hb, h0, h1, h2, h3⟩
  have hp0 : 0 ≤ p := hR.at0
  have hp1 : p ≤ b.l := hR.at1
  have hbl : b.l = xs.length := by have := hR.sl.len; dsimp only at this; omega
  have hT : Fol (dTC xs) (rsC xs 18446744073709551615 (n - i).toNat p e) ys := hT
  have fb : FlatL b.c := hR.sl.flat
  have fv := hv.flat
  have fg := hg.he.flatB
  have ft := ht.he.flat
  refine ⟨fun hlt => ⟨⟨trivial, ⟨xs, hri hp0 hp1 (by decide) (by decide)⟩, ⟨rfl, rfl⟩, by omega⟩, ?_, fun r hr => ?_, trivial⟩, fun hge => ?_⟩
  · repeat' first
      | with_reducible apply And.intro
      | exact trivial
      | exact rfl
      | assumption
  · have hr : r = rdC xs p e 18446744073709551615 := hr xs (hri hp0 hp1 (by decide) (by decide))
    obtain ⟨k0, k1, k2, k3⟩ : 0 ≤ r.n ∧ r.n ≤ 18446744073709551615 ∧ 0 ≤ r.at_ ∧ r.at_ ≤ b.l := by rw [hr, hbl]; exact rdC_in hb hp0 (by omega) (by decide)
    refine ⟨⟨trivial, ⟨k0, by omega⟩, trivial⟩, ⟨⟨rfl, trivial⟩, trivial⟩, fun _ _ => ?_, trivial⟩
    refine ⟨fun hnn => ⟨by simp, fun vs hvs => ⟨fun h => absurd h (by decide), fun _ => ⟨by unfold Few; omega, ?_, fun z hz => ?_⟩⟩⟩, fun hnn => ⟨by simp, fun vs hvs => ⟨⟨rfl, ht.len, rfl, ht.le, by unfold Few; have := ht.l; rw [tips_len] at this; omega, by rw [hvs]; exact (frm_hw r.n).oneK⟩, fun l' k' hl' hk' => ⟨?_, fun z hz => ?_⟩⟩⟩⟩
    · repeat' first
        | with_reducible apply And.intro
        | exact trivial
        | exact rfl
        | assumption
    · rw [wrap_u64] at hz
      have hz : z = i + 1 := by omega
      have hvw : HW (Value.int .u8) vs (frm r.n).l := by rw [hvs]; exact frm_hw r.n
      have hy0 := (ht.nil hnn).1
      have h1 : LF (Value.int .u8) 8 ⟨false, 1, 1, vs⟩ (tipsL (ys ++ [r.n])) := by rw [tips_snoc, hy0]; exact LF.one hvw rfl
      have f1 := h1.he.flat
      refine ⟨⟨b, r.at_, r.e, n, z, v, g, ⟨false, 1, 1, vs⟩⟩, ⟨⟨⟨by show 0 ≤ z; omega, by show z ≤ n; omega⟩, hn, hri k2 k3 (by decide) (by decide), hb5⟩, hv, gs, ⟨hg, hgs⟩, ys ++ [r.n], h1, by show (((ys ++ [r.n]).length : Nat) : Int) = z; simp; omega, fol_more hlt hr hz hT⟩, by show (n - z).toNat < (n - i).toNat; omega, ?_⟩
      repeat' first
        | with_reducible apply And.intro
        | exact trivial
        | exact rfl
        | assumption
    · repeat' first
        | with_reducible apply And.intro
        | exact trivial
        | exact rfl
        | assumption
    · rw [wrap_u64] at hz
      have hz : z = i + 1 := by omega
      have hvw : HW (Value.int .u8) vs (frm r.n).l := by rw [hvs]; exact frm_hw r.n
      have h1 : LF (Value.int .u8) 8 ⟨false, l', k', t.c ++ vs⟩ (tipsL (ys ++ [r.n])) := by rw [tips_snoc]; exact ht.snoc hvw rfl hl' hk'
      have f1 := h1.he.flat
      refine ⟨⟨b, r.at_, r.e, n, z, v, g, ⟨false, l', k', t.c ++ vs⟩⟩, ⟨⟨⟨by show 0 ≤ z; omega, by show z ≤ n; omega⟩, hn, hri k2 k3 (by decide) (by decide), hb5⟩, hv, gs, ⟨hg, hgs⟩, ys ++ [r.n], h1, by show (((ys ++ [r.n]).length : Nat) : Int) = z; simp; omega, fol_more hlt hr hz hT⟩, by show (n - z).toNat < (n - i).toNat; omega, ?_⟩
      repeat' first
        | with_reducible apply And.intro
        | exact trivial
        | exact rfl
        | assumption
  obtain ⟨ee, eE⟩ := fol_end hge hT
  refine ⟨⟨trivial, ⟨xs, hri hp0 hp1 (by decide) (by decide)⟩, ⟨rfl, rfl, rfl⟩, by omega⟩, ?_, fun q0 h0 => ?_, trivial⟩
  · repeat' first
      | with_reducible apply And.intro
      | exact trivial
      | exact rfl
      | assumption
  have h0 : q0 = rdC xs p e 18446744073709551615 := h0 xs (hri hp0 hp1 (by decide) (by decide))
  obtain ⟨a0, b0, c0, d0⟩ : 0 ≤ q0.n ∧ q0.n ≤ 18446744073709551615 ∧ 0 ≤ q0.at_ ∧ q0.at_ ≤ b.l := by rw [h0, hbl]; exact rdC_in hb hp0 (by omega) (by decide)
  have k0 : Fw q0 (r0C xs) := by rw [h0]; exact fw_rd xs _ ee fun h => by rw [eE h]
  refine ⟨⟨trivial, ⟨xs, hri c0 d0 (by decide) (by decide)⟩, ⟨rfl, rfl, rfl⟩, by omega⟩, ?_, fun q1 h1 => ?_, trivial⟩
  · repeat' first
      | with_reducible apply And.intro
      | exact trivial
      | exact rfl
      | assumption
  have h1 : q1 = rdC xs q0.at_ q0.e 18446744073709551615 := h1 xs (hri c0 d0 (by decide) (by decide))
  obtain ⟨a1, b1, c1, d1⟩ : 0 ≤ q1.n ∧ q1.n ≤ 18446744073709551615 ∧ 0 ≤ q1.at_ ∧ q1.at_ ≤ b.l := by rw [h1, hbl]; exact rdC_in hb c0 (by omega) (by decide)
  have k1 : Fw q1 (r1C xs) := by rw [h1]; exact k0.rd xs _
  refine ⟨⟨trivial, ⟨xs, hri c1 d1 (by decide) (by decide)⟩, ⟨rfl, rfl, rfl⟩, by omega⟩, ?_, fun q2 h2 => ?_, trivial⟩
  · repeat' first
      | with_reducible apply And.intro
      | exact trivial
      | exact rfl
      | assumption
  have h2 : q2 = rdC xs q1.at_ q1.e 18446744073709551615 := h2 xs (hri c1 d1 (by decide) (by decide))
  obtain ⟨a2, b2, c2, d2⟩ : 0 ≤ q2.n ∧ q2.n ≤ 18446744073709551615 ∧ 0 ≤ q2.at_ ∧ q2.at_ ≤ b.l := by rw [h2, hbl]; exact rdC_in hb c1 (by omega) (by decide)
  have k2 : Fw q2 (r2C xs) := by rw [h2]; exact k1.rd xs _
  refine ⟨⟨trivial, ⟨xs, hri c2 d2 (by decide) (by decide)⟩, ⟨rfl, rfl, rfl⟩, by omega⟩, ?_, fun q3 h3 => ?_, trivial⟩
  · repeat' first
      | with_reducible apply And.intro
      | exact trivial
      | exact rfl
      | assumption
  have h3 : q3 = rdC xs q2.at_ q2.e 18446744073709551615 := h3 xs (hri c2 d2 (by decide) (by decide))
  obtain ⟨a3, b3, c3, d3⟩ : 0 ≤ q3.n ∧ q3.n ≤ 18446744073709551615 ∧ 0 ≤ q3.at_ ∧ q3.at_ ≤ b.l := by rw [h3, hbl]; exact rdC_in hb c2 (by omega) (by decide)
  have k3 : Fw q3 (r3C xs) := by rw [h3]; exact k2.rd xs _
  refine ⟨⟨trivial, ⟨xs, hri c3 d3 (by decide) (by decide)⟩, ⟨rfl, rfl⟩, by omega⟩, ?_, fun q4 h4 => ?_, trivial⟩
  · repeat' first
      | with_reducible apply And.intro
      | exact trivial
      | exact rfl
      | assumption
  have h4 : q4 = rdC xs q3.at_ q3.e 18446744073709551615 := h4 xs (hri c3 d3 (by decide) (by decide))
  obtain ⟨a4, b4, c4, d4⟩ : 0 ≤ q4.n ∧ q4.n ≤ 18446744073709551615 ∧ 0 ≤ q4.at_ ∧ q4.at_ ≤ b.l := by rw [h4, hbl]; exact rdC_in hb c3 (by omega) (by decide)
  have k4 : Fw q4 (r4C xs) := by rw [h4]; exact k3.rd xs _
  have fin : endC xs (r4C xs).at_ (r4C xs).e = 0 → q4.e = 0 → ∀ ys : List Int, Sli (Value.int .u8) 1 a.n a.o a.l a.k a.c ys → endC ys (r4C ys).at_ (r4C ys).e = 0 ∧ (LC v (dWC ys).ws ∧ LF Value.bool 1 g (goneL (dGC ys).ns) ∧ LF (Value.int .u8) 8 t (tipsL (dTC ys).ns)) ∧ unfI q0.n = unfI (r0C ys).n ∧ unfI q1.n = unfI (r1C ys).n ∧ unfI q2.n = unfI (r2C ys).n ∧ unfI q3.n = unfI (r3C ys).n ∧ q4.n = (r4C ys).n := fun h hq zs hy => by
    rw [Sli.uniqI hy hx]
    have e4 : (r4C xs).e = 0 := k4.e.symm.trans hq
    have eT : (dTC xs).e = 0 := Decidable.byContradiction fun h => h ((r4_sticky rfl h).symm.trans e4)
    have eG : (dGC xs).e = 0 := Decidable.byContradiction fun h => h ((dT_sticky rfl h).symm.trans eT)
    have e1 := eE (ee.trans eT)
    refine ⟨h, ⟨hv, by rw [← hgs eG]; exact hg, by rw [e1]; exact ht⟩, by rw [k0.n], by rw [k1.n], by rw [k2.n], by rw [k3.n], by rw [k4.n]⟩
  refine ⟨fun he => ⟨fun _ => ⟨⟨q4.e⟩, ⟨he, err _ (by rw [← k4.e]; exact endC_err he)⟩, ?_⟩, fun h => absurd he h⟩, fun he x hx2 y hy => ⟨?_, fun hlt => ⟨⟨5⟩, ⟨by decide, err 5 ?_⟩, ?_⟩, fun hge => ⟨⟨v, g, t, _, _, _, _, _⟩, fin ?_ (Decidable.not_not.1 he), ?_⟩⟩⟩
  · repeat' first
      | with_reducible apply And.intro
      | exact trivial
      | exact rfl
      | assumption
  · repeat' first
      | with_reducible apply And.intro
      | exact trivial
      | exact rfl
      | assumption
  · have he := Decidable.not_not.1 he
    rw [wrap_sm (by omega)] at hy
    rw [← k4.at_ he, he]
    exact endC_long (by omega)
  · repeat' first
      | with_reducible apply And.intro
      | exact trivial
      | exact rfl
      | assumption
  · have he := Decidable.not_not.1 he
    rw [wrap_sm (by omega)] at hy
    rw [← k4.at_ he, he]
    exact endC_ok (by omega)
  · repeat' first
      | with_reducible apply And.intro
      | exact trivial
      | exact rfl
      | assumption
theorem s_decP : SpecOK Tryz.prog S_decP.spec := fun a K hp hq => by
  obtain ⟨⟨xs, hx, hb⟩, hl⟩ := hp
  exact specD_at (an := [some (la_m1 xs), some (la_m2 xs), none]) envOK (cwN_ok (fun _ h => cwD_ok s_fresh (cwD_ok s_rnum (cwD_ok s_rint (cwD_ok s_words (cwD_ok s_hfrom h))))) 3) (fun _ => g_decP a xs hx hb hl) K ⟨⟨xs, hx, hb⟩, hl⟩ hq
end Go.Proofs.YtalbjjimnhldfaaGreatDoor
