/- A game's rules: Do, Silence are what is told of them. -/
import Derived.Test.YtdjnipabfbblnaaGreatDoorYgp
set_option maxRecDepth 100000
-- eta
namespace Go.Proofs.YtdjnipabfbblnaaGreatDoor
open Go.Ev
set_option linter.unusedSectionVars false
variable [Go.Ev.Frozen Tryz.prog]
noncomputable section
def W_G_do_0 : DoA → Option AO := fun (a : DoA) => Option.some (AO.row (Array.toList (Array.mk [Value.iface (1000000009 : Nat) (Value.agg (Array.mk [Value.bool a.2.1.1, Value.slice (Option.some (Addr.mk (24 : Nat)
a.2.1.2 Option.none)) a.2.1.3 a.2.1.4])), Value.iface (1000000009 : Nat) (Value.agg (Array.mk [Value.bool a.2.2.1, Value.slice (Option.some (Addr.mk (25 : Nat) a.2.2.2
Option.none)) a.2.2.3 a.2.2.4])), Value.iface (1000000009 : Nat) (Value.agg (Array.mk [Value.bool a.2.3.1, Value.slice (Option.some (Addr.mk (26 : Nat) a.2.3.2 Option.none))
a.2.3.3 a.2.3.4])), Value.iface (1000000007 : Nat) (Value.int IntKind.i64 a.2.4), Value.iface (1000000007 : Nat) (Value.int IntKind.i64 a.2.5), Value.iface (1000000007 : Nat)
(Value.int IntKind.i64 a.2.6), Value.iface (1000000007 : Nat) (Value.int IntKind.i64 a.2.7), Value.iface (1000000007 : Nat) (Value.int IntKind.u64 a.2.8)])) (29 : Nat) Md.own)
def W_G_do_1 : DoA → Option AO := fun (a : DoA) => Option.some (AO.row a.2.3.5 (50 : Nat) Md.gro)
def W_G_do_2 : DoA → PB → Option AO := fun (a : DoA) (x39 : PB) => Option.some (AO.row [Value.iface (1000000009 : Nat) (Value.agg (Array.mk [Value.bool a.2.1.1, Value.slice (Option.some (Addr.mk (Nat.add (Nat.add
(Nat.add (Nat.add (Nat.succ (Nat.succ (Nat.succ ((13 : Nat) + (15 : Nat))))) (Nat.sub ((13 : Nat) + (14 : Nat)) (27 : Nat))) (Nat.sub ((13 : Nat) + (14 : Nat)) (27 : Nat)))
(Nat.sub (nat_lit 13) (13 : Nat))) (0 : Nat)) (0 : Nat) Option.none)) a.2.1.3 x39.1.1])), Value.iface (1000000009 : Nat) (Value.agg (Array.mk [Value.bool a.2.2.1, Value.slice
(Option.some (Addr.mk (Nat.add (Nat.add (Nat.add (Nat.add (Nat.succ (Nat.succ (Nat.succ ((13 : Nat) + (15 : Nat))))) (Nat.sub ((13 : Nat) + (14 : Nat)) (27 : Nat))) (Nat.sub ((13 :
Nat) + (14 : Nat)) (27 : Nat))) (Nat.sub (nat_lit 13) (13 : Nat))) (1 : Nat)) (0 : Nat) Option.none)) a.2.2.3 x39.2.1])), Value.iface (1000000009 : Nat) (Value.agg (Array.mk
[Value.bool a.2.3.1, Value.slice (Option.some (Addr.mk (Nat.add (Nat.add (Nat.add (Nat.add (Nat.succ (Nat.succ (Nat.succ ((13 : Nat) + (15 : Nat))))) (Nat.sub ((13 : Nat) + (14 :
Nat)) (27 : Nat))) (Nat.sub ((13 : Nat) + (14 : Nat)) (27 : Nat))) (Nat.sub (nat_lit 13) (13 : Nat))) (2 : Nat)) (0 : Nat) Option.none)) a.2.3.3 x39.3.1])), Value.iface (1000000007
: Nat) (Value.int IntKind.i64 a.2.4), Value.iface (1000000007 : Nat) (Value.int IntKind.i64 a.2.5), Value.iface (1000000007 : Nat) (Value.int IntKind.i64 a.2.6), Value.iface
(1000000007 : Nat) (Value.int IntKind.i64 a.2.7), Value.iface (1000000007 : Nat) (Value.int IntKind.u64 a.2.8)] (29 : Nat) Md.own)
def W_G_do_3 : DoA → PX → GX → List Int → Option PsX := fun (a : DoA) (x71 : PX) (x72 : GX) (x73 : List Int) => playX x72 (PsX.mk x71 a.2.4 a.2.5 a.2.6 a.2.7 a.2.8) (Int.toNat a.3) x73
def W_G_do_4 : PA → PX → Option PsX := fun (x70 : PA) (x74 : PX) => Option.some (PsX.mk x74 x70.4 x70.5 x70.6 x70.7 x70.8)
def W_G_do_5 : Option PsX := Option.none
def W_G_sil_0 : BhA → Option AO := fun (a : BhA) => Option.some (AO.row [Value.iface (1000000008 : Nat) Value.nilIface, Value.iface (1000000009 : Nat) (Value.agg (Array.mk [Value.bool a.1.1.1, Value.slice
(Option.some (Addr.mk (14 : Nat) a.1.1.2 Option.none)) a.1.1.3 a.1.1.4])), Value.iface (1000000008 : Nat) Value.nilIface, Value.iface (1000000008 : Nat) Value.nilIface, Value.iface
(1000000008 : Nat) Value.nilIface, Value.iface (1000000008 : Nat) Value.nilIface, Value.iface (1000000008 : Nat) Value.nilIface, Value.iface (1000000008 : Nat) Value.nilIface,
Value.iface (1000000008 : Nat) Value.nilIface, Value.iface (1000000008 : Nat) Value.nilIface, Value.pointer (Option.some (Addr.mk (16 : Nat) (0 : Nat) Option.none)), Value.iface
(1000000008 : Nat) Value.nilIface, Value.iface (1000000009 : Nat) (Value.agg (Array.mk [Value.bool a.1.2.1, Value.slice (Option.some (Addr.mk (15 : Nat) a.1.2.2 Option.none))
a.1.2.3 a.1.2.4]))] (101 : Nat) Md.gro)
def W_G_sil_1 : BhA → Option AO := fun (a : BhA) => Option.some (AO.row (Array.toList (Array.mk [Value.iface (1000000009 : Nat) (Value.agg (Array.mk [Value.bool a.2.1.1, Value.slice (Option.some (Addr.mk (24 : Nat)
a.2.1.2 Option.none)) a.2.1.3 a.2.1.4])), Value.iface (1000000009 : Nat) (Value.agg (Array.mk [Value.bool a.2.2.1, Value.slice (Option.some (Addr.mk (25 : Nat) a.2.2.2
Option.none)) a.2.2.3 a.2.2.4])), Value.iface (1000000009 : Nat) (Value.agg (Array.mk [Value.bool a.2.3.1, Value.slice (Option.some (Addr.mk (26 : Nat) a.2.3.2 Option.none))
a.2.3.3 a.2.3.4])), Value.iface (1000000007 : Nat) (Value.int IntKind.i64 a.2.4), Value.iface (1000000007 : Nat) (Value.int IntKind.i64 a.2.5), Value.iface (1000000007 : Nat)
(Value.int IntKind.i64 a.2.6), Value.iface (1000000007 : Nat) (Value.int IntKind.i64 a.2.7), Value.iface (1000000007 : Nat) (Value.int IntKind.u64 a.2.8)])) (29 : Nat) Md.own)
end
set_option maxHeartbeats 3200000 in
abbrev QYgdP_11 (a0 : SA) (a1 : List Int) : Prop := Sli (Value.int IntKind.i32) 1 a0.1 a0.2 a0.3 a0.4 a0.5 a1
abbrev QYgdP_1 (a0 : Int) (a1 : DoA) : Prop := a0 ≠ 0 ∧ ∀ (b0 : PX) (b1 : GX) (b2 : List Int), PH a1.2 b0 → GH a1.1 b1 → QYgdP_11 a1.4.2 b2 → doX b1 (PsX.mk b0 a1.2.4 a1.2.5 a1.2.6
 a1.2.7 a1.2.8) a1.3 (MX.mk a1.4.1 b2 a1.4.3) = Except.error a0
abbrev QYgdP_2 : Prop := (0 = 0 ∧ 0 = 0) ∧ (0 = 0 ∧ 0 = 0) ∧ (0 = 0 ∧ 0 = 0) ∧ (0 : Int) = 0 ∧ (0 : Int) = 0 ∧ (0 : Int) = 0 ∧ (0 : Int) = 0 ∧ (0 : Int) = 0 ∧ True
abbrev QYgdP_3 (a0 : CdA) : Prop := True ∧ a0.1 = a0.1 ∧ a0.2 = a0.2 ∧ Z4 a0.3 ∧ Z4 a0.4 ∧ Z4 a0.5 ∧ Z4 a0.6 ∧ Z4 a0.7 ∧ Z4 a0.8 ∧ Z4 a0.9 ∧ a0.10 = a0.10 ∧ a0.11 = a0.11 ∧ a0.12 =
 a0.12 ∧ a0.13 = a0.13 ∧ a0.14 = a0.14 ∧ True
abbrev QYgdP_4 (a0 : BhA) (a1 : PA) : Prop := ∀ (b0 : PX) (b1 : GX), PH a0.2 b0 → GH a0.1 b1 → ∃ (b2 : PX), PH a1 b2 ∧ silX b1 (PsX.mk b0 a0.2.4 a0.2.5 a0.2.6 a0.2.7 a0.2.8) a0.3 =
 Except.ok (PsX.mk b2 a1.4 a1.5 a1.6 a1.7 a1.8)
abbrev QYgdP_5 (a0 : GmA) : Prop := True ∧ True ∧ Z4 a0.1 ∧ True ∧ True ∧ True ∧ True ∧ True ∧ True ∧ True ∧ True ∧ 0 = 0 ∧ True ∧ Z4 a0.2 ∧ True
abbrev QYgdP_6 (a0 : BhA) : Prop := (True ∧ True) ∧ (True ∧ True) ∧ (True ∧ True) ∧ (W_G_sil_0 a0 = W_G_sil_0 a0 ∧ True) ∧ (True ∧ True) ∧ (W_G_sil_1 a0 = W_G_sil_1 a0 ∧ True) ∧
 True ∧ True ∧ True ∧ True ∧ True ∧ True ∧ (True ∧ True) ∧ (True ∧ True ∧ True ∧ True) ∧ True ∧ True ∧ True
abbrev QYgdP_7 (a0 : Int) (a1 : BhA) : Prop := a0 ≠ 0 ∧ ∀ (b0 : PX) (b1 : GX), PH a1.2 b0 → GH a1.1 b1 → silX b1 (PsX.mk b0 a1.2.4 a1.2.5 a1.2.6 a1.2.7 a1.2.8) a1.3 = Except.error
 a0
abbrev QYgdP_8 (a0 : PA) (a1 : PA) (a2 : PB) : Prop := (a0.2.1 = a1.2.1 ∧ a0.2.2 = 0 ∧ a0.2.3 = a1.2.3 ∧ a0.2.4 = a2.2.1) ∧ (a0.3.1 = a1.3.1 ∧ a0.3.2 = 0 ∧ a0.3.3 = a1.3.3 ∧ a0.3.4
 = a2.3.1) ∧ a0.4 = a1.4 ∧ a0.5 = a1.5 ∧ a0.6 = a1.6 ∧ a0.7 = a1.7 ∧ a0.8 = a1.8 ∧ True
abbrev QYgdP_9 (a0 : PA) (a1 : PA) (a2 : PB) (a3 : PaO) : Prop := (a0.2.1 = a1.2.1 ∧ a0.2.2 = nat_lit 0 ∧ a0.2.3 = a1.2.3 ∧ a0.2.4 = a2.2.1) ∧ (a0.3.1 = a1.3.1 ∧ a0.3.2 = nat_lit 0
 ∧ a0.3.3 = a1.3.3 ∧ a0.3.4 = a2.3.1) ∧ a0.4 = a3.2 ∧ a0.5 = a3.3 ∧ a0.6 = a3.4 ∧ a0.7 = a3.5 ∧ a0.8 = a3.6 ∧ True
abbrev QYgdP_10 (a0 : SA) (a1 : List Int) : Prop := Sli (Value.int IntKind.i32) 2 a0.1 a0.2 a0.3 a0.4 a0.5 a1
abbrev QYgdP_12 (a0 : PA) (a1 : List Value) (a2 : List Value) : Prop := (True ∧ FlatL a0.2.5 ∧ a0.2.5 = a1) ∧ (True ∧ FlatL a0.3.5 ∧ a0.3.5 = a2) ∧ True
abbrev QYgdP_13 (a0 : Int) (a1 : List Int) : Prop := Sli (Value.int IntKind.i32) 1 false (nat_lit 0) (nat_lit 1) (nat_lit 1) [Value.iface 1000000007 (Value.int IntKind.i32 a0)] a1
abbrev QYgdP_14 (a0 : PA) (a1 : PB) : Prop := ∀ (b0 : PX), PH a0 b0 → PH (PA.mk (SA.mk a0.1.1 0 a0.1.3 a1.1.1 a1.1.2) (SA.mk a0.2.1 0 a0.2.3 a1.2.1 a1.2.2) (SA.mk a0.3.1 0 a0.3.3
 a1.3.1 a1.3.2) a0.4 a0.5 a0.6 a0.7 a0.8) b0
abbrev QYgdP_15 (a0 : SA) (a1 : List Int) : Prop := Sli (Value.int IntKind.i64) 4 a0.1 a0.2 a0.3 a0.4 a0.5 a1
abbrev QYgdP_16 (a0 : PA) : Prop := a0.4 = 0 ∧ a0.5 = 0 ∧ a0.6 = 0 ∧ a0.7 = 0 ∧ a0.8 = 0 ∧ True
abbrev QYgdP_17 (a0 : DoA) (a1 : PA) : Prop := ∀ (b0 : PX) (b1 : GX) (b2 : List Int), PH a0.2 b0 → GH a0.1 b1 → QYgdP_11 a0.4.2 b2 → ∃ (b3 : PX), PH a1 b3 ∧ doX b1 (PsX.mk b0
 a0.2.4 a0.2.5 a0.2.6 a0.2.7 a0.2.8) a0.3 (MX.mk a0.4.1 b2 a0.4.3) = Except.ok (PsX.mk b3 a1.4 a1.5 a1.6 a1.7 a1.8)
abbrev QYgdP_18 (a0 : PA) : Prop := (Z4 a0.1 ∧ Z4 a0.2 ∧ Z4 a0.3 ∧ ZR a0) ∧ True
abbrev QYgdP_19 (a0 : PA) (a1 : PB) : Prop := (a0.2.1 = a0.2.1 ∧ nat_lit 0 = 0 ∧ a0.2.3 = a0.2.3 ∧ a1.2.1 = a1.2.1) ∧ (a0.3.1 = a0.3.1 ∧ nat_lit 0 = 0 ∧ a0.3.3 = a0.3.3 ∧ a1.3.1 =
 a1.3.1) ∧ a0.4 = a0.4 ∧ a0.5 = a0.5 ∧ a0.6 = a0.6 ∧ a0.7 = a0.7 ∧ a0.8 = a0.8 ∧ True
abbrev QYgdP_20 (a0 : BhA) : Prop := (0 ≤ a0.2.4 ∧ a0.2.4 < (↑a0.1.2.3 : Int)) ∧ (2 ≤ a0.2.5 ∧ a0.2.5 ≤ 1000) ∧ (0 ≤ a0.2.6 ∧ a0.2.6 < (↑a0.1.1.3 : Int)) ∧ (0 ≤ a0.2.8 ∧ a0.2.8 <
 18446744073709551616) ∧ a0.1.2.3 ≤ 1000
abbrev QYgdP_21 (a0 : BhA) (a1 : OtO) (a2 : PB) (a3 : List Value) : Prop := ∃ (b0 : PA), QYgdP_4 a0 b0 ∧ (((b0.1.1 = false ∧ b0.1.2 = 0 ∧ b0.1.3 = Int.toNat a0.1.3.1 ∧ b0.1.4 =
 a1.1) ∧ QYgdP_8 b0 a0.2 a2) ∧ (0 : Int) = 0 ∧ True) ∧ (True ∧ FlatL b0.1.5 ∧ b0.1.5 = a1.2) ∧ QYgdP_12 b0 a3 a2.3.2
abbrev QYgdP_22 (a0 : DoA) : Prop := True ∧ True ∧ True ∧ (True ∧ True) ∧ (W_G_do_0 a0 = W_G_do_0 a0 ∧ True) ∧ (True ∧ True) ∧ (True ∧ True) ∧ (W_G_do_1 a0 = W_G_do_1 a0 ∧ True) ∧
 True ∧ True ∧ True
abbrev QYgdP_23 (a0 : PA) : Prop := True ∧ (∃ (b0 : PX), PH a0 b0) ∧ a0.1.3 ≤ 1000 ∧ a0.2.3 ≤ 1000 ∧ a0.3.3 ≤ 1000
abbrev QYgdP_24 (a0 : BhA) (a1 : PB) (a2 : List Value) : Prop := ∃ (b0 : PA), QYgdP_4 a0 b0 ∧ (((b0.1.1 = true ∧ b0.1.3 = 0 ∧ b0.1.4 = 0) ∧ QYgdP_8 b0 a0.2 a1) ∧ (0 : Int) = 0 ∧
 True) ∧ (FlatL b0.1.5 ∧ True) ∧ QYgdP_12 b0 a2 a1.3.2
abbrev QYgdP_25 (a0 : D8) : Prop := ((a0.1 = a0.1 ∧ a0.2 = a0.2 ∧ a0.3 = a0.3 ∧ a0.4 = a0.4 ∧ a0.5 = a0.5 ∧ a0.6 = a0.6 ∧ a0.7 = a0.7 ∧ a0.8 = a0.8 ∧ True) ∧ True) ∧ True
abbrev QYgdP_26 (a0 : PA) : Prop := ZF a0.1.5 ∧ ZF a0.2.5 ∧ ZF a0.3.5 ∧ True
abbrev QYgdP_27 (a0 : DoA) : Prop := ∃ (b0 : KI), QYgdP_1 b0.1 a0 ∧ (QYgdP_2 ∧ b0.1 = 14 ∧ True) ∧ True
theorem vc_do (a : DoA) : G_do a = ((True ∧ gmF a.1 ∧ (∃ (x0 : PX), PH a.2 x0) ∧ (∃ (x1 : List Int), QYgdP_10 a.1.2 x1) ∧ a.2.1.3 ≤ 1000) ∧ ((0 = 0 ∧ QYgdP_18 a.2) ∧ QYgdP_5 a.1 ∧ ZF a.1.1.5 ∧ ZF a.1.2.5 ∧ QYgdP_3
a.1.3 ∧ ZF a.1.3.3.5 ∧ ZF a.1.3.4.5 ∧ ZF a.1.3.5.5 ∧ ZF a.1.3.6.5 ∧ ZF a.1.3.7.5 ∧ ZF a.1.3.8.5 ∧ ZF a.1.3.9.5 ∧ QYgdP_26 a.2) ∧ (∀ (_ : Unit), lenOK (GpA.mk a.1 a.2) ∧ (∀ (x3 :
PX) (x4 : List Int), PH a.2 x3 → QYgdP_10 a.1.2 x4 → inAll x4 x3.1 a.2.1.3 ∧ (rollZ a.2 ∨ rollOK a.1.2.3 a.1.1.3 a.2 x3)) → (True ∧ (gmF a.1 ∧ cdP a.1.3 ∧ 0 ≤ a.1.3.11 ∧ a.2.1.3 ≤
1000) ∧ (∃ (x5 : PX), PH a.2 x5 ∧ W32 x5.1) ∧ (∃ (x6 : List Int), QYgdP_10 a.1.2 x6) ∧ (∃ (x7 : List Int), QYgdP_15 a.1.3.6 x7)) ∧ ((0 = 0 ∧ QYgdP_18 a.2) ∧ QYgdP_5 a.1 ∧ ZF
a.1.1.5 ∧ ZF a.1.2.5 ∧ QYgdP_3 a.1.3 ∧ ZF a.1.3.3.5 ∧ ZF a.1.3.4.5 ∧ ZF a.1.3.5.5 ∧ ZF a.1.3.6.5 ∧ ZF a.1.3.7.5 ∧ ZF a.1.3.8.5 ∧ ZF a.1.3.9.5 ∧ ZF a.2.1.5 ∧ ZF a.2.2.5 ∧ ZF a.2.3.5
∧ ZF cells4 ∧ True) ∧ (∀ (x8 : KI), (∀ (x9 : PX) (x10 x11 : List Int), PH a.2 x9 → QYgdP_10 a.1.2 x10 → QYgdP_15 a.1.3.6 x11 → x8.1 = turnC (GpA.mk a.1 a.2) x9 x10 x11) →
(¬(QYgdP_16 a.2) → (x8.1 < 0 → (∃ (x12 : KI), QYgdP_1 x12.1 a ∧ (QYgdP_2 ∧ x12.1 = 15 ∧ True) ∧ True)) ∧ (¬(x8.1 < 0) → (x8.1 ≠ a.3 → (∃ (x16 : KI), QYgdP_1 x16.1 a ∧ (QYgdP_2 ∧
x16.1 = 13 ∧ True) ∧ True)) ∧ (¬(x8.1 ≠ a.3) → (true ≠ a.4.1 → QYgdP_27 a) ∧ (¬(true ≠ a.4.1) → (True ∧ D8.Ok a.4.3) ∧ QYgdP_25 a.4.3 ∧ (∀ (x24 : D8), x24 = oneC a.4.3 → (0 ≤ a.3 ∧
a.3 < (↑a.2.3.3 : Int)) ∧ ∀ (x25 : Nat), x25 = a.2.3.2 + Int.toNat a.3 * 8 → ∃ (x26 : Int), Rd a.2.3.5 (Nat.add x25 0) (Value.int IntKind.u8 x26) ∧ ∃ (x27 : Int), Rd a.2.3.5
(Nat.add x25 1) (Value.int IntKind.u8 x27) ∧ ∃ (x28 : Int), Rd a.2.3.5 (Nat.add x25 2) (Value.int IntKind.u8 x28) ∧ ∃ (x29 : Int), Rd a.2.3.5 (Nat.add x25 3) (Value.int IntKind.u8
x29) ∧ ∃ (x30 : Int), Rd a.2.3.5 (Nat.add x25 4) (Value.int IntKind.u8 x30) ∧ ∃ (x31 : Int), Rd a.2.3.5 (Nat.add x25 5) (Value.int IntKind.u8 x31) ∧ ∃ (x32 : Int), Rd a.2.3.5
(Nat.add x25 6) (Value.int IntKind.u8 x32) ∧ ∃ (x33 : Int), Rd a.2.3.5 (Nat.add x25 7) (Value.int IntKind.u8 x33) ∧ (¬(x24.1 = x26 ∧ x24.2 = x27 ∧ x24.3 = x28 ∧ x24.4 = x29 ∧ x24.5
= x30 ∧ x24.6 = x31 ∧ x24.7 = x32 ∧ x24.8 = x33 ∧ True) → QYgdP_22 a ∧ (∃ (x34 : KI), QYgdP_1 x34.1 a ∧ (QYgdP_2 ∧ x34.1 = 29 ∧ True) ∧ True)) ∧ (x24.1 = x26 ∧ x24.2 = x27 ∧ x24.3
= x28 ∧ x24.4 = x29 ∧ x24.5 = x30 ∧ x24.6 = x31 ∧ x24.7 = x32 ∧ x24.8 = x33 ∧ True → QYgdP_22 a ∧ QYgdP_23 a.2 ∧ (QYgdP_18 a.2 ∧ QYgdP_26 a.2) ∧ (∀ (x39 : PB), QYgdP_14 a.2 x39 →
(0 ≤ a.3 ∧ a.3 < (↑a.2.3.3 : Int)) ∧ ∀ (x41 : Nat), x41 = 0 + Int.toNat a.3 * 8 → x41 + 8 ≤ List.length x39.3.2 ∧ ∀ (x42 : List Value), x42 = lput x39.3.2 x41 (Array.toList
(Array.mk [Value.iface 1000000007 (Value.int IntKind.u8 a.4.3.1), Value.iface 1000000007 (Value.int IntKind.u8 a.4.3.2), Value.iface 1000000007 (Value.int IntKind.u8 a.4.3.3),
Value.iface 1000000007 (Value.int IntKind.u8 a.4.3.4), Value.iface 1000000007 (Value.int IntKind.u8 a.4.3.5), Value.iface 1000000007 (Value.int IntKind.u8 a.4.3.6), Value.iface
1000000007 (Value.int IntKind.u8 a.4.3.7), Value.iface 1000000007 (Value.int IntKind.u8 a.4.3.8)])) → (True ∧ D8.Ok a.4.3 ∧ True) ∧ QYgdP_25 a.4.3 ∧ (∀ (_ : Unit), True → ∀ (x44 :
Int), x44 = IntKind.wrap .u64 (a.2.8 + dnum [a.4.3.1, a.4.3.2, a.4.3.3, a.4.3.4, a.4.3.5, a.4.3.6, a.4.3.7, a.4.3.8]) → ((True ∧ True) ∧ (True ∧ True) ∧ (W_G_do_2 a x39 = W_G_do_2
a x39 ∧ True) ∧ True ∧ True ∧ True ∧ True ∧ True ∧ True ∧ True ∧ True) ∧ (True ∧ (gmF a.1 ∧ (∃ (x45 : PX), PH (PA.mk (SA.mk a.2.1.1 0 a.2.1.3 x39.1.1 x39.1.2) (SA.mk a.2.2.1 0
a.2.2.3 x39.2.1 x39.2.2) (SA.mk a.2.3.1 0 a.2.3.3 x39.3.1 x42) a.2.4 a.2.5 a.2.6 a.2.7 x44) x45) ∧ (∃ (x46 : GX), GH a.1 x46)) ∧ (0 ≤ a.3 ∧ a.3 < (↑a.1.1.3 : Int)) ∧ a.1.1.3 ≤ 8 ∧
(a.2.1.3 = a.1.2.3 ∧ a.2.2.3 = a.1.1.3 ∧ nat_lit 0 = 0) ∧ (0 ≤ a.2.4 ∧ a.2.4 < (↑a.1.2.3 : Int)) ∧ (2 ≤ a.2.5 ∧ a.2.5 ≤ 1000) ∧ (0 ≤ a.2.6 ∧ a.2.6 < (↑a.1.1.3 : Int)) ∧ ((0 : Int)
≤ x44 ∧ x44 < (18446744073709551616 : Int)) ∧ a.1.2.3 ≤ 1000) ∧ ((0 = 0 ∧ 0 = 0 ∧ a.3 = a.3 ∧ True) ∧ QYgdP_5 a.1 ∧ ZF a.1.1.5 ∧ ZF a.1.2.5 ∧ QYgdP_3 a.1.3 ∧ ZF a.1.3.3.5 ∧ ZF
a.1.3.4.5 ∧ ZF a.1.3.5.5 ∧ ZF a.1.3.6.5 ∧ ZF a.1.3.7.5 ∧ ZF a.1.3.8.5 ∧ ZF a.1.3.9.5 ∧ (True ∧ (a.2.1.1 = a.2.1.1 ∧ 0 = 0 ∧ a.2.1.3 = a.2.1.3 ∧ x39.1.1 = x39.1.1) ∧ (a.2.2.1 =
a.2.2.1 ∧ nat_lit 0 = 0 ∧ a.2.2.3 = a.2.2.3 ∧ x39.2.1 = x39.2.1) ∧ (a.2.3.1 = a.2.3.1 ∧ nat_lit 0 = 0 ∧ a.2.3.3 = a.2.3.3 ∧ x39.3.1 = x39.3.1) ∧ a.2.4 = a.2.4 ∧ a.2.5 = a.2.5 ∧
a.2.6 = a.2.6 ∧ a.2.7 = a.2.7 ∧ x44 = x44 ∧ True) ∧ (x39.1.1 = x39.1.1 ∧ FlatL x39.1.2 ∧ x39.1.2 = x39.1.2) ∧ ZF x39.2.2 ∧ ZF x42 ∧ True) ∧ (∀ (x47 : PaO), (∀ (x48 : PX) (x49 :
GX), PH (PA.mk (SA.mk a.2.1.1 0 a.2.1.3 x39.1.1 x39.1.2) (SA.mk a.2.2.1 0 a.2.2.3 x39.2.1 x39.2.2) (SA.mk a.2.3.1 0 a.2.3.3 x39.3.1 x42) a.2.4 a.2.5 a.2.6 a.2.7 x44) x48 → GH a.1
x49 → ∃ (x50 : PX), PH (PA.mk (SA.mk a.2.1.1 0 a.2.1.3 x39.1.1 x47.1) (SA.mk a.2.2.1 0 a.2.2.3 x39.2.1 x39.2.2) (SA.mk a.2.3.1 0 a.2.3.3 x39.3.1 x42) x47.2 x47.3 x47.4 x47.5 x47.6)
x50 ∧ PsX.mk x50 x47.2 x47.3 x47.4 x47.5 x47.6 = passX x49 (PsX.mk x48 a.2.4 a.2.5 a.2.6 a.2.7 x44) (Int.toNat a.3)) → ∃ (x51 : PA), QYgdP_17 a x51 ∧ (((x51.1.1 = a.2.1.1 ∧ x51.1.2
= 0 ∧ x51.1.3 = a.2.1.3 ∧ x51.1.4 = x39.1.1) ∧ QYgdP_9 x51 a.2 x39 x47) ∧ (0 : Int) = 0 ∧ True) ∧ (True ∧ FlatL x51.1.5 ∧ x51.1.5 = x47.1) ∧ QYgdP_12 x51 x39.2.2 x42) ∧ True) ∧
True) ∧ True)) ∧ True)))) ∧ (QYgdP_16 a.2 → (x8.1 < 0 → (∃ (x56 : KI), QYgdP_1 x56.1 a ∧ (QYgdP_2 ∧ x56.1 = 15 ∧ True) ∧ True)) ∧ (¬(x8.1 < 0) → (x8.1 ≠ a.3 → (∃ (x60 : KI),
QYgdP_1 x60.1 a ∧ (QYgdP_2 ∧ x60.1 = 13 ∧ True) ∧ True)) ∧ (¬(x8.1 ≠ a.3) → (false ≠ a.4.1 → QYgdP_27 a) ∧ (¬(false ≠ a.4.1) → (True ∧ GOk a.1 ∧ (∃ (x68 : PX), PH a.2 x68 ∧ W32
x68.1) ∧ (∃ (x69 : List Int), QYgdP_11 a.4.2 x69 ∧ W32 x69) ∧ (0 ≤ a.3 ∧ a.3 < (↑a.1.1.3 : Int)) ∧ a.4.2.3 ≤ 1000 ∧ a.2.1.3 = a.1.2.3 ∧ a.2.2.3 = a.1.1.3 ∧ a.2.3.3 = a.1.1.3) ∧ ((0
= 0 ∧ (Z4 a.2.1 ∧ Z4 a.2.2 ∧ Z4 a.2.3 ∧ ZR a.2) ∧ a.3 = a.3 ∧ Z4 a.4.2 ∧ True) ∧ QYgdP_5 a.1 ∧ ZF a.1.1.5 ∧ ZF a.1.2.5 ∧ QYgdP_3 a.1.3 ∧ ZF a.1.3.3.5 ∧ ZF a.1.3.4.5 ∧ ZF a.1.3.5.5
∧ ZF a.1.3.6.5 ∧ ZF a.1.3.7.5 ∧ ZF a.1.3.8.5 ∧ ZF a.1.3.9.5 ∧ ZF a.2.1.5 ∧ ZF a.2.2.5 ∧ ZF a.2.3.5 ∧ ZF a.4.2.5 ∧ ZF cells4 ∧ True) ∧ (∀ (x70 : PA), (∀ (x71 : PX) (x72 : GX) (x73 :
List Int), PH a.2 x71 → GH a.1 x72 → QYgdP_11 a.4.2 x73 → ∃ (x74 : PX), PH x70 x74 ∧ W_G_do_3 a x71 x72 x73 = W_G_do_4 x70 x74) → ∃ (x75 : PA), QYgdP_17 a x75 ∧ (((x75.1.1 =
x70.1.1 ∧ x75.1.2 = x70.1.2 ∧ x75.1.3 = x70.1.3 ∧ x75.1.4 = x70.1.4) ∧ (x75.2.1 = x70.2.1 ∧ x75.2.2 = x70.2.2 ∧ x75.2.3 = x70.2.3 ∧ x75.2.4 = x70.2.4) ∧ (x75.3.1 = x70.3.1 ∧
x75.3.2 = x70.3.2 ∧ x75.3.3 = x70.3.3 ∧ x75.3.4 = x70.3.4) ∧ x75.4 = x70.4 ∧ x75.5 = x70.5 ∧ x75.6 = x70.6 ∧ x75.7 = x70.7 ∧ x75.8 = x70.8 ∧ True) ∧ (0 : Int) = 0 ∧ True) ∧ (True ∧
FlatL x75.1.5 ∧ x75.1.5 = x70.1.5) ∧ (True ∧ FlatL x75.2.5 ∧ x75.2.5 = x70.2.5) ∧ (True ∧ FlatL x75.3.5 ∧ x75.3.5 = x70.3.5) ∧ True) ∧ (∀ (_ : Unit), (∀ (x81 : PX) (x82 : GX) (x83
: List Int), PH a.2 x81 → GH a.1 x82 → QYgdP_11 a.4.2 x83 → W_G_do_3 a x81 x82 x83 = W_G_do_5) → QYgdP_27 a) ∧ True))))) ∧ True) ∧ (∀ (_ : Unit), (lenOK (GpA.mk a.1 a.2) → False) →
∃ (x89 : KI), QYgdP_1 x89.1 a ∧ (QYgdP_2 ∧ x89.1 = 3 ∧ True) ∧ True) ∧ (∀ (_ : Unit), lenOK (GpA.mk a.1 a.2) ∧ (∀ (x94 : PX) (x95 : List Int), PH a.2 x94 → QYgdP_10 a.1.2 x95 →
¬(inAll x95 x94.1 a.2.1.3 ∧ (rollZ a.2 ∨ rollOK a.1.2.3 a.1.1.3 a.2 x94))) → ∃ (x96 : KI), QYgdP_1 x96.1 a ∧ (QYgdP_2 ∧ x96.1 = 2 ∧ True) ∧ True) ∧ True) := by kernel_rfl
set_option maxHeartbeats 3200000 in
theorem vc_sil (a : BhA) : G_sil a = ((True ∧ gmF a.1 ∧ (∃ (x0 : PX), PH a.2 x0) ∧ (∃ (x1 : List Int), QYgdP_10 a.1.2 x1) ∧ a.2.1.3 ≤ 1000) ∧ ((0 = 0 ∧ QYgdP_18 a.2) ∧ QYgdP_5 a.1 ∧ ZF a.1.1.5 ∧ ZF a.1.2.5 ∧ QYgdP_3
a.1.3 ∧ ZF a.1.3.3.5 ∧ ZF a.1.3.4.5 ∧ ZF a.1.3.5.5 ∧ ZF a.1.3.6.5 ∧ ZF a.1.3.7.5 ∧ ZF a.1.3.8.5 ∧ ZF a.1.3.9.5 ∧ QYgdP_26 a.2) ∧ (∀ (_ : Unit), lenOK (GpA.mk a.1 a.2) ∧ (∀ (x3 :
PX) (x4 : List Int), PH a.2 x3 → QYgdP_10 a.1.2 x4 → inAll x4 x3.1 a.2.1.3 ∧ (rollZ a.2 ∨ rollOK a.1.2.3 a.1.1.3 a.2 x3)) → (True ∧ FlatL a.1.1.5 ∧ FlatL a.1.2.5 ∧ cdF a.1.3) ∧ ((0
= 0 ∧ a.3 = a.3 ∧ True) ∧ QYgdP_5 a.1 ∧ ZF a.1.1.5 ∧ ZF a.1.2.5 ∧ QYgdP_3 a.1.3 ∧ ZF a.1.3.3.5 ∧ ZF a.1.3.4.5 ∧ ZF a.1.3.5.5 ∧ ZF a.1.3.6.5 ∧ ZF a.1.3.7.5 ∧ ZF a.1.3.8.5 ∧ ZF
a.1.3.9.5 ∧ True) ∧ (∀ (_ : Unit), 0 ≤ a.3 ∧ a.3 < (↑a.1.1.3 : Int) → (True ∧ (gmF a.1 ∧ cdP a.1.3 ∧ 0 ≤ a.1.3.11 ∧ a.2.1.3 ≤ 1000) ∧ (∃ (x6 : PX), PH a.2 x6 ∧ W32 x6.1) ∧ (∃ (x7 :
List Int), QYgdP_10 a.1.2 x7) ∧ (∃ (x8 : List Int), QYgdP_15 a.1.3.6 x8)) ∧ ((0 = 0 ∧ QYgdP_18 a.2) ∧ QYgdP_5 a.1 ∧ ZF a.1.1.5 ∧ ZF a.1.2.5 ∧ QYgdP_3 a.1.3 ∧ ZF a.1.3.3.5 ∧ ZF
a.1.3.4.5 ∧ ZF a.1.3.5.5 ∧ ZF a.1.3.6.5 ∧ ZF a.1.3.7.5 ∧ ZF a.1.3.8.5 ∧ ZF a.1.3.9.5 ∧ ZF a.2.1.5 ∧ ZF a.2.2.5 ∧ ZF a.2.3.5 ∧ ZF cells4 ∧ True) ∧ (∀ (x9 : KI), (∀ (x10 : PX) (x11
x12 : List Int), PH a.2 x10 → QYgdP_10 a.1.2 x11 → QYgdP_15 a.1.3.6 x12 → x9.1 = turnC (GpA.mk a.1 a.2) x10 x11 x12) → (x9.1 < 0 → (∃ (x13 : KI), QYgdP_7 x13.1 a ∧ (QYgdP_2 ∧ x13.1
= 15 ∧ True) ∧ True)) ∧ (¬(x9.1 < 0) → (0 ≤ a.3 ∧ a.3 < (↑a.2.2.3 : Int)) ∧ ∀ (x16 : Nat), x16 = a.2.2.2 + Int.toNat a.3 * 1 → ∃ (x17 : Bool), Rd a.2.2.5 (Nat.add x16 0)
(Value.bool x17) ∧ (x17 = true → (∃ (x18 : KI), QYgdP_7 x18.1 a ∧ (QYgdP_2 ∧ x18.1 = 7 ∧ True) ∧ True)) ∧ (x17 = false → ∀ (x21 : Int), x21 = IntKind.wrap .i32 a.3 → (True ∧ (cdP
a.1.3 ∧ nat_lit 1 = 1 ∧ 0 ≤ a.1.3.13) ∧ (∃ (x22 : List Int), QYgdP_11 a.2.1 x22 ∧ W32 x22) ∧ (∃ (x23 : List Int), QYgdP_13 x21 x23 ∧ W32 x23) ∧ (∃ (x24 : List Int), QYgdP_15
a.1.3.8 x24)) ∧ ((0 = 0 ∧ (3 : Int) = 3 ∧ Z4 a.2.1 ∧ (false = false ∧ nat_lit 0 = 0 ∧ nat_lit 1 = 1 ∧ nat_lit 1 = 1) ∧ True) ∧ QYgdP_3 a.1.3 ∧ ZF a.1.3.3.5 ∧ ZF a.1.3.4.5 ∧ ZF
a.1.3.5.5 ∧ ZF a.1.3.6.5 ∧ ZF a.1.3.7.5 ∧ ZF a.1.3.8.5 ∧ ZF a.1.3.9.5 ∧ ZF a.2.1.5 ∧ (True ∧ FlatL [Value.iface 1000000007 (Value.int IntKind.i32 x21)] ∧ [Value.iface 1000000007
(Value.int IntKind.i32 x21)] = [Value.iface 1000000007 (Value.int IntKind.i32 x21)]) ∧ ZF cells4 ∧ True) ∧ (∀ (x25 : OtO), ((↑a.2.1.3 : Int) = a.1.3.1 ∧ a.1.3.1 ≤ (↑x25.1 : Int)) ∧
(∀ (x26 x27 x28 : List Int), QYgdP_11 a.2.1 x26 → QYgdP_13 x21 x27 → QYgdP_15 a.1.3.8 x28 → (lastC x26 (x27 ++ List.replicate 48 (0 : Int)) x28 a.1.3.13).3 = (1 : Int) ∧ HE
IntKind.i32 x25.2 (List.take (Int.toNat a.1.3.1) (lastC x26 (x27 ++ List.replicate 48 (0 : Int)) x28 a.1.3.13).2)) → QYgdP_6 a ∧ QYgdP_23 a.2 ∧ (QYgdP_18 a.2 ∧ QYgdP_26 a.2) ∧ (∀
(x30 : PB), QYgdP_14 a.2 x30 → (0 ≤ a.3 ∧ a.3 < (↑a.2.2.3 : Int)) ∧ ∀ (x32 : Nat), x32 = 0 + Int.toNat a.3 * 1 → x32 + 1 ≤ List.length x30.2.2 ∧ ∀ (x33 : List Value), x33 = lput
x30.2.2 x32 [Value.bool true] → (¬(QYgdP_16 a.2) → (a.2.7 = a.3 → (True ∧ (gmF a.1 ∧ (∃ (x34 : PX), PH (PA.mk (SA.mk false 0 (Int.toNat a.1.3.1) x25.1 x25.2) (SA.mk a.2.2.1 0
a.2.2.3 x30.2.1 x33) (SA.mk a.2.3.1 0 a.2.3.3 x30.3.1 x30.3.2) a.2.4 a.2.5 a.2.6 a.2.7 a.2.8) x34) ∧ (∃ (x35 : GX), GH a.1 x35)) ∧ (0 ≤ a.3 ∧ a.3 < (↑a.1.1.3 : Int)) ∧ a.1.1.3 ≤ 8
∧ (Int.toNat a.1.3.1 = a.1.2.3 ∧ a.2.2.3 = a.1.1.3 ∧ nat_lit 0 = 0) ∧ QYgdP_20 a) ∧ ((0 = 0 ∧ 0 = 0 ∧ a.3 = a.3 ∧ True) ∧ QYgdP_5 a.1 ∧ ZF a.1.1.5 ∧ ZF a.1.2.5 ∧ QYgdP_3 a.1.3 ∧ ZF
a.1.3.3.5 ∧ ZF a.1.3.4.5 ∧ ZF a.1.3.5.5 ∧ ZF a.1.3.6.5 ∧ ZF a.1.3.7.5 ∧ ZF a.1.3.8.5 ∧ ZF a.1.3.9.5 ∧ (True ∧ (false = false ∧ 0 = 0 ∧ Int.toNat a.1.3.1 = Int.toNat a.1.3.1 ∧ x25.1
= x25.1) ∧ QYgdP_19 a.2 x30) ∧ (x25.1 = x25.1 ∧ FlatL x25.2 ∧ x25.2 = x25.2) ∧ ZF x33 ∧ ZF x30.3.2 ∧ True) ∧ (∀ (x36 : PaO), (∀ (x37 : PX) (x38 : GX), PH (PA.mk (SA.mk false 0
(Int.toNat a.1.3.1) x25.1 x25.2) (SA.mk a.2.2.1 0 a.2.2.3 x30.2.1 x33) (SA.mk a.2.3.1 0 a.2.3.3 x30.3.1 x30.3.2) a.2.4 a.2.5 a.2.6 a.2.7 a.2.8) x37 → GH a.1 x38 → ∃ (x39 : PX), PH
(PA.mk (SA.mk false 0 (Int.toNat a.1.3.1) x25.1 x36.1) (SA.mk a.2.2.1 0 a.2.2.3 x30.2.1 x33) (SA.mk a.2.3.1 0 a.2.3.3 x30.3.1 x30.3.2) x36.2 x36.3 x36.4 x36.5 x36.6) x39 ∧ PsX.mk
x39 x36.2 x36.3 x36.4 x36.5 x36.6 = passX x38 (PsX.mk x37 a.2.4 a.2.5 a.2.6 a.2.7 a.2.8) (Int.toNat a.3)) → ∃ (x40 : PA), QYgdP_4 a x40 ∧ (((x40.1.1 = false ∧ x40.1.2 = 0 ∧ x40.1.3
= Int.toNat a.1.3.1 ∧ x40.1.4 = x25.1) ∧ QYgdP_9 x40 a.2 x30 x36) ∧ (0 : Int) = 0 ∧ True) ∧ (True ∧ FlatL x40.1.5 ∧ x40.1.5 = x36.1) ∧ QYgdP_12 x40 x33 x30.3.2) ∧ True) ∧ (¬(a.2.7
= a.3) → QYgdP_21 a x25 x30 x33)) ∧ (QYgdP_16 a.2 → QYgdP_21 a x25 x30 x33)) ∧ True) ∧ (∀ (_ : Unit), (↑a.2.1.3 : Int) = a.1.3.1 ∧ (∀ (x53 x54 x55 : List Int), QYgdP_11 a.2.1 x53 →
QYgdP_13 x21 x54 → QYgdP_15 a.1.3.8 x55 → (lastC x53 (x54 ++ List.replicate 48 (0 : Int)) x55 a.1.3.13).3 = (2 : Int)) → QYgdP_6 a ∧ QYgdP_23 a.2 ∧ (QYgdP_18 a.2 ∧ QYgdP_26 a.2) ∧
(∀ (x57 : PB), QYgdP_14 a.2 x57 → (0 ≤ a.3 ∧ a.3 < (↑a.2.2.3 : Int)) ∧ ∀ (x59 : Nat), x59 = 0 + Int.toNat a.3 * 1 → x59 + 1 ≤ List.length x57.2.2 ∧ ∀ (x60 : List Value), x60 = lput
x57.2.2 x59 [Value.bool true] → (¬(QYgdP_16 a.2) → (a.2.7 = a.3 → (True ∧ (gmF a.1 ∧ (∃ (x61 : PX), PH (PA.mk (SA.mk true 0 0 0 []) (SA.mk a.2.2.1 0 a.2.2.3 x57.2.1 x60) (SA.mk
a.2.3.1 0 a.2.3.3 x57.3.1 x57.3.2) a.2.4 a.2.5 a.2.6 a.2.7 a.2.8) x61) ∧ (∃ (x62 : GX), GH a.1 x62)) ∧ (0 ≤ a.3 ∧ a.3 < (↑a.1.1.3 : Int)) ∧ a.1.1.3 ≤ 8 ∧ (nat_lit 0 = a.1.2.3 ∧
a.2.2.3 = a.1.1.3 ∧ nat_lit 0 = 0) ∧ QYgdP_20 a) ∧ ((0 = 0 ∧ 0 = 0 ∧ a.3 = a.3 ∧ True) ∧ QYgdP_5 a.1 ∧ ZF a.1.1.5 ∧ ZF a.1.2.5 ∧ QYgdP_3 a.1.3 ∧ ZF a.1.3.3.5 ∧ ZF a.1.3.4.5 ∧ ZF
a.1.3.5.5 ∧ ZF a.1.3.6.5 ∧ ZF a.1.3.7.5 ∧ ZF a.1.3.8.5 ∧ ZF a.1.3.9.5 ∧ (True ∧ (true = true ∧ nat_lit 0 = 0 ∧ nat_lit 0 = 0) ∧ QYgdP_19 a.2 x57) ∧ (FlatL [] ∧ True) ∧ ZF x60 ∧ ZF
x57.3.2 ∧ True) ∧ (∀ (x63 : PaO), (∀ (x64 : PX) (x65 : GX), PH (PA.mk (SA.mk true 0 0 0 []) (SA.mk a.2.2.1 0 a.2.2.3 x57.2.1 x60) (SA.mk a.2.3.1 0 a.2.3.3 x57.3.1 x57.3.2) a.2.4
a.2.5 a.2.6 a.2.7 a.2.8) x64 → GH a.1 x65 → ∃ (x66 : PX), PH (PA.mk (SA.mk true 0 (nat_lit 0) (nat_lit 0) x63.1) (SA.mk a.2.2.1 0 a.2.2.3 x57.2.1 x60) (SA.mk a.2.3.1 0 a.2.3.3
x57.3.1 x57.3.2) x63.2 x63.3 x63.4 x63.5 x63.6) x66 ∧ PsX.mk x66 x63.2 x63.3 x63.4 x63.5 x63.6 = passX x65 (PsX.mk x64 a.2.4 a.2.5 a.2.6 a.2.7 a.2.8) (Int.toNat a.3)) → ∃ (x67 :
PA), QYgdP_4 a x67 ∧ (((x67.1.1 = true ∧ x67.1.3 = 0 ∧ x67.1.4 = 0) ∧ QYgdP_9 x67 a.2 x57 x63) ∧ (0 : Int) = 0 ∧ True) ∧ (FlatL x67.1.5 ∧ True) ∧ QYgdP_12 x67 x60 x57.3.2) ∧ True)
∧ (¬(a.2.7 = a.3) → QYgdP_24 a x57 x60)) ∧ (QYgdP_16 a.2 → QYgdP_24 a x57 x60)) ∧ True) ∧ (∀ (_ : Unit), (↑a.2.1.3 : Int) = a.1.3.1 ∧ (∀ (x80 x81 x82 : List Int), QYgdP_11 a.2.1
x80 → QYgdP_13 x21 x81 → QYgdP_15 a.1.3.8 x82 → (lastC x80 (x81 ++ List.replicate 48 (0 : Int)) x82 a.1.3.13).3 ≠ (1 : Int) ∧ (lastC x80 (x81 ++ List.replicate 48 (0 : Int)) x82
a.1.3.13).3 ≠ (2 : Int)) → QYgdP_6 a ∧ ∃ (x83 : KI), QYgdP_7 x83.1 a ∧ (QYgdP_2 ∧ x83.1 = 10 ∧ True) ∧ True) ∧ (∀ (_ : Unit), ((↑a.2.1.3 : Int) = a.1.3.1 → False) → QYgdP_6 a ∧ ∃
(x87 : KI), QYgdP_7 x87.1 a ∧ (QYgdP_2 ∧ x87.1 = 3 ∧ True) ∧ True) ∧ True))) ∧ True) ∧ (∀ (_ : Unit), (0 ≤ a.3 ∧ a.3 < (↑a.1.1.3 : Int) → False) → ∃ (x91 : KI), QYgdP_7 x91.1 a ∧
(QYgdP_2 ∧ x91.1 = 28 ∧ True) ∧ True) ∧ True) ∧ (∀ (_ : Unit), (lenOK (GpA.mk a.1 a.2) → False) → ∃ (x95 : KI), QYgdP_7 x95.1 a ∧ (QYgdP_2 ∧ x95.1 = 3 ∧ True) ∧ True) ∧ (∀ (_ :
Unit), lenOK (GpA.mk a.1 a.2) ∧ (∀ (x99 : PX) (x100 : List Int), PH a.2 x99 → QYgdP_10 a.1.2 x100 → ¬(inAll x100 x99.1 a.2.1.3 ∧ (rollZ a.2 ∨ rollOK a.1.2.3 a.1.1.3 a.2 x99))) → ∃
(x101 : KI), QYgdP_7 x101.1 a ∧ (QYgdP_2 ∧ x101.1 = 2 ∧ True) ∧ True) ∧ True) := by kernel_rfl
theorem Sli.putW {α : Type} {f : α → Value} {sz : Nat} {n : Bool} {l kk : Nat} {c : List Value} {xs : List α} (h : Sli f sz n 0 l kk c xs) {k : Nat} (hk : k < l) {vs : List Value} {gs : List α} (hg : HW f vs gs) (hgl : gs.length = sz) (hfl : FlatL vs) :
    Sli f sz n 0 l kk (lput c (k * sz) vs) (xs.take (k * sz) ++ (gs ++ xs.drop (k * sz + sz))) := by
  have hn : n = false := by
    cases hb : n with
    | false => rfl
    | true => have := (h.nil hb).1; omega
  have hfit := h.fit hn
  have hlen := h.len
  have hvl : vs.length = sz := by rw [hg.len]; exact hgl
  have hle : k * sz + sz ≤ l * sz := by have := Nat.mul_le_mul_right sz (show k + 1 ≤ l from hk); rw [Nat.add_mul, Nat.one_mul] at this; exact this
  generalize hK : k * sz = K at *
  have hcl : (lput c K vs).length = c.length := by simp only [lput, List.length_append, List.length_take, List.length_drop]; omega
  refine ⟨fun j x hx => ?_, ?_, h.nil, fun q => by rw [hcl]; exact h.fit q, h.cap, fun v hv => ?_⟩
  · rw [Nat.zero_add]
    unfold Rd lput
    by_cases h1 : j < K
    · rw [List.getElem?_append_left (by rw [List.length_take]; omega), List.getElem?_take_of_lt h1] at hx
      have := h.at_ j x hx
      rw [Nat.zero_add] at this
      unfold Rd at this
      rw [List.getElem?_append_left (by rw [List.length_take]; omega), List.getElem?_take_of_lt h1]; exact this
    · have t1 : (xs.take K).length = K := by rw [List.length_take]; omega
      have t2 : (c.take K).length = K := by rw [List.length_take]; omega
      rw [List.getElem?_append_right (by omega), t1] at hx
      rw [List.getElem?_append_right (by omega), t2]
      by_cases h2 : j < K + sz
      · rw [List.getElem?_append_left (by omega)] at hx
        have := hg.at_ (j - K) x hx
        rw [Nat.zero_add] at this
        unfold Rd at this
        rw [List.getElem?_append_left (by omega)]; exact this
      · rw [List.getElem?_append_right (by omega), List.getElem?_drop] at hx
        rw [List.getElem?_append_right (by omega), List.getElem?_drop]
        have e1 : K + sz + (j - K - gs.length) = j := by omega
        have e2 : K + vs.length + (j - K - vs.length) = j := by omega
        rw [e1] at hx
        rw [e2]
        have := h.at_ j x hx
        rw [Nat.zero_add] at this
        exact this
  · simp only [List.length_append, List.length_take, List.length_drop]; omega
  · unfold lput at hv
    rcases List.mem_append.1 hv with hv | hv
    · exact h.flat v (List.mem_of_mem_take hv)
    · rcases List.mem_append.1 hv with hv | hv
      · exact hfl v hv
      · exact h.flat v (List.mem_of_mem_drop hv)
theorem hw8 (d : D8) : HW (Value.int .u8) [tgI .u8 d.d0, tgI .u8 d.d1, tgI .u8 d.d2, tgI .u8 d.d3, tgI .u8 d.d4, tgI .u8 d.d5, tgI .u8 d.d6, tgI .u8 d.d7] d.l := by
  refine ⟨rfl, fun i x hx => ?_⟩
  rw [Nat.zero_add]
  have hi : i < 8 := (List.getElem?_eq_some_iff.1 hx).1
  have : i = 0 ∨ i = 1 ∨ i = 2 ∨ i = 3 ∨ i = 4 ∨ i = 5 ∨ i = 6 ∨ i = 7 := by omega
  rcases this with h | h | h | h | h | h | h | h <;> subst h <;> (cases hx; exact .inr rfl)
theorem fl8 (d : D8) : FlatL [tgI .u8 d.d0, tgI .u8 d.d1, tgI .u8 d.d2, tgI .u8 d.d3, tgI .u8 d.d4, tgI .u8 d.d5, tgI .u8 d.d6, tgI .u8 d.d7] := (hw8 d).flat
theorem hwB1 : HW Value.bool [.bool true] [true] := ⟨rfl, fun i x hx => by
  cases i with
  | zero => cases hx; exact .inl rfl
  | succ i => simp at hx⟩
theorem flB1 : FlatL [Value.bool true] := hwB1.flatB
theorem set_take {α : Type} {xs : List α} {k : Nat} {v : α} (h : k < xs.length) : xs.take (k * 1) ++ ([v] ++ xs.drop (k * 1 + 1)) = xs.set k v := by
  rw [Nat.mul_one, List.set_eq_take_append_cons_drop, if_pos h]; rfl
theorem chk0 {a : GpA} {x : PX} {X : GX} (hp : PH a.p x) (hX : GH a.g X) (h : lenOK a ∧ ∀ y cs, PH a.p y → cellsOf a.g cs → inAll cs y.vars a.p.s1.l ∧ (rollZ a.p ∨ rollOK a.g.cells.l a.g.stakes.l a.p y)) : checkX X (a.p.ps x) = 0 := (okPos_iff hp hX).1 ⟨h.1, h.2 x _ hp hX.cells⟩
theorem chk3 {a : GpA} {x : PX} {X : GX} (hp : PH a.p x) (hX : GH a.g X) (h : ¬ lenOK a) : checkX X (a.p.ps x) = 3 := by unfold checkX; rw [if_neg (fun q => h ((lenOK_iff hp hX).2 q))]
theorem chk2 {a : GpA} {x : PX} {X : GX} (hp : PH a.p x) (hX : GH a.g X) (h : lenOK a ∧ ∀ y cs, PH a.p y → cellsOf a.g cs → ¬ (inAll cs y.vars a.p.s1.l ∧ (rollZ a.p ∨ rollOK a.g.cells.l a.g.stakes.l a.p y))) : checkX X (a.p.ps x) = 2 := by
  unfold checkX
  have hl : a.p.s1.l = X.nc := by rw [← hX.nc]; exact h.1.1
  rw [if_pos ((lenOK_iff hp hX).1 h.1), if_neg (fun q => h.2 x _ hp hX.cells ((inX_iff hX hl).2 q))]
theorem do_chk {X : GX} {s : PsX} {k : Int} {m : MX} {e : Int} (h : checkX X s = e) (he : e ≠ 0) : doX X s k m = .error e := by unfold doX; rw [if_pos (by rw [h]; exact he), h]
theorem do_over {X : GX} {s : PsX} {k : Int} {m : MX} (h : checkX X s = 0) (h1 : turnX X s < 0) : doX X s k m = .error 15 := by unfold doX; rw [if_neg (not_not_intro h), if_pos h1]
theorem do_turn {X : GX} {s : PsX} {k : Int} {m : MX} (h : checkX X s = 0) (h1 : ¬ turnX X s < 0) (h2 : turnX X s ≠ k) : doX X s k m = .error 13 := by unfold doX; rw [if_neg (not_not_intro h), if_neg h1, if_pos h2]
theorem do_rest {X : GX} {s : PsX} {k : Int} {m : MX} (h : checkX X s = 0) (h1 : ¬ turnX X s < 0) (h2 : turnX X s = k) : doX X s k m = (if m.t ≠ decide (¬ zR s) then .error 14 else
  if zR s then playE (playX X s k.toNat m.gs) else
  if (oneC m.d).l ≠ (tipX s k.toNat).l then .error 29 else .ok (passX X (shownX s k.toNat m.d) k.toNat)) := by unfold doX; rw [if_neg (not_not_intro h), if_neg h1, if_neg (not_not_intro h2)]
theorem tipRd {n : Bool} {o l kk : Nat} {c : List Value} {xs : List Int} (h : Sli (Value.int .u8) 8 n o l kk c xs) {k p j : Nat} (hk : k < l) (e : p = o + k * 8) (hj : j < 8) : Rd c (Nat.add p j) (.int .u8 (xs.getD (8 * k + j) 0)) := by
  have hlen := h.len
  have hl : 8 * k + j < xs.length := by omega
  have := h.at_ (8 * k + j) (xs.getD (8 * k + j) 0) (by simp [List.getD, hl])
  rw [show Nat.add p j = o + (8 * k + j) by show p + j = _; omega]
  exact this
theorem seatX_lt {X : GX} {s : PsX} {n : Int} : seatX X s n = -1 ∨ (0 ≤ seatX X s n ∧ seatX X s n < X.ns) := by
  unfold seatX
  split
  · rename_i h; exact .inr h.1
  · exact .inl rfl
theorem turnX_lt {X : GX} {s : PsX} (hz : zR s) : turnX X s = -1 ∨ (0 ≤ turnX X s ∧ turnX X s < X.ns) := by
  unfold turnX
  by_cases h : checkX X s ≠ 0
  · rw [if_pos h]; exact .inl rfl
  · rw [if_neg h, if_neg (not_not_intro hz)]
    by_cases h1 : (lastC s.x.vars z49 X.w1 X.m1).halt = 1
    · rw [if_pos h1]; exact seatX_lt
    · rw [if_neg h1]
      by_cases h2 : (lastC s.x.vars z49 X.w1 X.m1).halt = 2
      · rw [if_pos h2]; exact seatX_lt
      · rw [if_neg h2]; exact .inl rfl
set_option maxHeartbeats 1600000 in
theorem g_do (a : DoA) (x : PX) (X : GX) (gs : List Int) (hg : GOk a.g) (hp : PH a.p x) (hw : PW a.p x) (hb8 : Byts8 x.tips) (hX : GH a.g X) (hgs : argsOf a.m.s gs) (hwg : W32 gs) (hd : a.m.d.Ok) (hv : a.m.s.l ≤ 1000) (hl : a.p.s1.l ≤ 1000 ∧ a.p.s2.l ≤ 1000 ∧ a.p.s3.l ≤ 1000) : G_do a := by
  have hg0 := hg
  obtain ⟨hf, hcd, hns, hnc, hnf, hnp, ⟨hm0, hm1, hm2, hm3, hm4⟩, -⟩ := hg
  have hf0 := hf
  obtain ⟨g1, g2, gc⟩ := hf
  obtain ⟨f1, f2, f3, f4, f5, f6, f7⟩ := gc
  have fo := opsFlat
  have fv := hgs.flat
  have p1 := hp.p1.flat
  have p2 := hp.p2.flat
  have p3 := hp.p3.flat
  obtain ⟨hl1, hl2, hl3⟩ := hl
  have hw32 : W32 x.vars := hw.v
  have hcd0 := hcd
  obtain ⟨⟨⟨hn0, hn1⟩, hse0, hse1⟩, -⟩ := hcd
  have ERR : ∀ e : Int, e ≠ 0 → doX X (a.p.ps x) a.s ⟨a.m.t, gs, a.m.d⟩ = .error e → (e ≠ 0 ∧ ∀ (y : PX) (Y : GX) (us : List Int), PH a.p y → GH a.g Y → argsOf a.m.s us → doX Y (a.p.ps y) a.s ⟨a.m.t, us, a.m.d⟩ = .error e) := fun e he h => ⟨he, fun y Y us hy hY hu => by rw [PH.uniq hy hp, GH.uniq hY hX, Sli.uniqI hu hgs]; exact h⟩
  have SOME : ∀ (b : PA), (∃ y, PH b y ∧ doX X (a.p.ps x) a.s ⟨a.m.t, gs, a.m.d⟩ = .ok (b.ps y)) → ∀ (y : PX) (Y : GX) (us : List Int), PH a.p y → GH a.g Y → argsOf a.m.s us → ∃ z, PH b z ∧ doX Y (a.p.ps y) a.s ⟨a.m.t, us, a.m.d⟩ = .ok (b.ps z) := fun b h y Y us hy hY hu => by rw [PH.uniq hy hp, GH.uniq hY hX, Sli.uniqI hu hgs]; exact h
  rw [vc_do]
  refine ⟨⟨trivial, hf0, ⟨x, hp⟩, ⟨X.cells, hX.cells⟩, hl1⟩, by repeat' first | with_reducible apply And.intro | exact trivial | exact rfl | assumption, fun _ hok => ?_, fun _ h => ⟨⟨3⟩, ERR 3 (by decide) (do_chk (chk3 (a := ⟨a.g, a.p⟩) hp hX h) (by decide)), by repeat' first | with_reducible apply And.intro | exact trivial | exact rfl | assumption⟩, fun _ h => ⟨⟨2⟩, ERR 2 (by decide) (do_chk (chk2 (a := ⟨a.g, a.p⟩) hp hX h) (by decide)), by repeat' first | with_reducible apply And.intro | exact trivial | exact rfl | assumption⟩, trivial⟩
  have hc0 : checkX X (a.p.ps x) = 0 := chk0 (a := ⟨a.g, a.p⟩) hp hX hok
  have hlen : lenOK ⟨a.g, a.p⟩ := hok.1
  have hlX := (lenOK_iff (a := ⟨a.g, a.p⟩) hp hX).1 hlen
  have hin : inX X (a.p.ps x) := by
    have := hc0; unfold checkX at this; rw [if_pos hlX] at this
    by_cases h : inX X (a.p.ps x)
    · exact h
    · rw [if_neg h] at this; exact absurd this (by decide)
  have e1 : a.p.s1.l = a.g.cells.l := hlen.1
  have e2 : a.p.s2.l = a.g.stakes.l := hlen.2.1
  have e3 : a.p.s3.l = a.g.stakes.l := hlen.2.2
  refine ⟨⟨trivial, ⟨hf0, hcd0, hm1, hl1⟩, ⟨x, hp, hw32⟩, ⟨X.cells, hX.cells⟩, X.w1, hX.w1⟩, by repeat' first | with_reducible apply And.intro | exact trivial | exact rfl | assumption, fun x8 h8 => ?_, trivial⟩
  have h8 : x8.k = turnX X (a.p.ps x) := (h8 _ _ _ hp hX.cells hX.w1).trans (turnX_eq (a := ⟨a.g, a.p⟩) hg0 hp hX)
  have x81 : x8.1 = x8.k := rfl
  have a3 : a.3 = a.s := rfl
  refine ⟨fun hnz => ⟨fun hlt => ⟨⟨15⟩, ERR 15 (by decide) (do_over hc0 (by rw [← h8]; exact hlt)), by repeat' first | with_reducible apply And.intro | exact trivial | exact rfl | assumption⟩, fun hge => ⟨fun hne => ⟨⟨13⟩, ERR 13 (by decide) (do_turn hc0 (by rw [← h8]; exact hge) (by rw [← h8]; exact hne)), by repeat' first | with_reducible apply And.intro | exact trivial | exact rfl | assumption⟩, fun heq => ?_⟩⟩, fun hz => ⟨fun hlt => ⟨⟨15⟩, ERR 15 (by decide) (do_over hc0 (by rw [← h8]; exact hlt)), by repeat' first | with_reducible apply And.intro | exact trivial | exact rfl | assumption⟩, fun hge => ⟨fun hne => ⟨⟨13⟩, ERR 13 (by decide) (do_turn hc0 (by rw [← h8]; exact hge) (by rw [← h8]; exact hne)), by repeat' first | with_reducible apply And.intro | exact trivial | exact rfl | assumption⟩, fun heq => ?_⟩⟩⟩
  · have hnz' : ¬ zR (a.p.ps x) := fun q => hnz ⟨q.1, q.2.1, q.2.2.1, q.2.2.2.1, q.2.2.2.2, trivial⟩
    have heq' : turnX X (a.p.ps x) = a.s := by rw [← h8]; exact Classical.not_not.1 heq
    have hD := fun m => do_rest (m := m) hc0 (show ¬ turnX X (a.p.ps x) < 0 by rw [← h8]; exact hge) heq'
    have hr3 : a.p.r3 = a.s := by
      have := heq'; unfold turnX at this
      rw [if_neg (not_not_intro hc0), if_pos hnz'] at this; exact this
    have hR : okR X (a.p.ps x) := hin.2.resolve_left hnz'
    obtain ⟨⟨q0, q1⟩, ⟨q2, q3⟩, ⟨q4, q5⟩, ⟨q6, q7⟩, q8⟩ := hR
    have hs : 0 ≤ a.s ∧ a.s < (a.g.stakes.l : Int) := by
      have h1 := hX.ns
      have q6 : 0 ≤ a.p.r3 := q6
      have q7 : a.p.r3 < (X.ns : Int) := q7
      omega
    refine ⟨fun ht => ⟨⟨14⟩, ERR 14 (by decide) (by rw [hD]; exact if_pos (by rw [decide_eq_true hnz']; exact fun q => ht q.symm)), by repeat' first | with_reducible apply And.intro | exact trivial | exact rfl | assumption⟩, fun ht => ?_⟩
    have ht' : a.m.t = true := (Classical.not_not.1 ht).symm
    have hmt : ¬ a.m.t ≠ decide (¬ zR (a.p.ps x)) := by rw [decide_eq_true hnz', ht']; exact not_not_intro rfl
    obtain ⟨k, hk⟩ : ∃ k : Nat, a.s = k := ⟨a.s.toNat, by omega⟩
    have hkt : a.s.toNat = k := by omega
    have hkl : k < a.p.s3.l := by omega
    have hs3 : a.s < (a.p.s3.l : Int) := by omega
    refine ⟨⟨trivial, hd⟩, by repeat' first | with_reducible apply And.intro | exact trivial | exact rfl | assumption, fun x24 e24 => ⟨⟨hs.1, hs3⟩, fun x25 e25 => ?_⟩, trivial⟩
    have e25' : x25 = a.p.s3.o + k * 8 := by rw [e25, a3, hkt]
    refine ⟨_, tipRd hp.p3 hkl e25' (by decide), _, tipRd hp.p3 hkl e25' (by decide), _, tipRd hp.p3 hkl e25' (by decide), _, tipRd hp.p3 hkl e25' (by decide), _, tipRd hp.p3 hkl e25' (by decide), _, tipRd hp.p3 hkl e25' (by decide), _, tipRd hp.p3 hkl e25' (by decide), _, tipRd hp.p3 hkl e25' (by decide), fun hne => ⟨by repeat' first | with_reducible apply And.intro | exact trivial | exact rfl | assumption, ⟨29⟩, ERR 29 (by decide) ?_, by repeat' first | with_reducible apply And.intro | exact trivial | exact rfl | assumption⟩, fun he => ?_⟩
    · rw [hD]
      show (if a.m.t ≠ decide (¬ zR (a.p.ps x)) then _ else _) = _
      rw [if_neg hmt, if_neg hnz', if_pos]
      intro q
      refine hne ?_
      rw [hkt] at q
      have q : (oneC a.m.d).l = (chk x.tips k).l := q
      have q' := q
      simp only [D8.l, chk, List.cons.injEq] at q'
      obtain ⟨c0, c1, c2, c3, c4, c5, c6, c7, -⟩ := q'
      rw [e24]
      exact ⟨c0, c1, c2, c3, c4, c5, c6, c7, trivial⟩
    · have hoc : (oneC a.m.d).l = (tipX (a.p.ps x) a.s.toNat).l := by
        rw [hkt]
        show (oneC a.m.d).l = (chk x.tips k).l
        rw [← e24]
        obtain ⟨c0, c1, c2, c3, c4, c5, c6, c7, -⟩ := he
        have d0 : x24.1 = x24.d0 := rfl
        simp only [D8.l, chk, List.cons.injEq]
        exact ⟨c0, c1, c2, c3, c4, c5, c6, c7, trivial⟩
      refine ⟨by repeat' first | with_reducible apply And.intro | exact trivial | exact rfl | assumption, ⟨trivial, ⟨x, hp⟩, hl1, hl2, hl3⟩, by repeat' first | with_reducible apply And.intro | exact trivial | exact rfl | assumption, fun x39 h39 => ⟨⟨hs.1, hs3⟩, fun x41 e41 => ?_⟩, trivial⟩
      have h39 := h39 x hp
      have e41' : x41 = k * 8 := by rw [e41, a3, hkt]; omega
      have hput := Sli.putW h39.p3 hkl (hw8 a.m.d) rfl (fl8 a.m.d)
      have hn3 : a.p.s3.n = false := by
        cases hb : a.p.s3.n with
        | false => rfl
        | true => have := (hp.p3.nil hb).1; omega
      have hfit := h39.p3.fit hn3
      refine ⟨by rw [e41']; have hfit : 0 + a.p.s3.l * 8 ≤ x39.b3.c.length := hfit
                 show k * 8 + 8 ≤ x39.b3.c.length; omega, fun x42 e42 => ?_⟩
      have e42' : x42 = lput x39.b3.c (k * 8) [tgI .u8 a.m.d.d0, tgI .u8 a.m.d.d1, tgI .u8 a.m.d.d2, tgI .u8 a.m.d.d3, tgI .u8 a.m.d.d4, tgI .u8 a.m.d.d5, tgI .u8 a.m.d.d6, tgI .u8 a.m.d.d7] := by rw [e42, e41']
      rw [← e42'] at hput
      have hput : Sli (Value.int .u8) 8 a.p.s3.n 0 a.p.s3.l x39.b3.k x42 (putTip x.tips k a.m.d.l) := hput
      have f39a := h39.p1.flat
      have f39b := h39.p2.flat
      have f42 := hput.flat
      refine ⟨⟨trivial, hd, trivial⟩, by repeat' first | with_reducible apply And.intro | exact trivial | exact rfl | assumption, fun _ _ x44 e44 => ?_, trivial⟩
      have e44' : x44 = IntKind.wrap .u64 (a.p.r4 + dnum a.m.d.l) := e44
      have h44 : 0 ≤ x44 ∧ x44 < 18446744073709551616 := by rw [e44', wrap_u64]; omega
      have hPP : PH ⟨⟨a.p.s1.n, 0, a.p.s1.l, x39.b1.k, x39.b1.c⟩, ⟨a.p.s2.n, 0, a.p.s2.l, x39.b2.k, x39.b2.c⟩, ⟨a.p.s3.n, 0, a.p.s3.l, x39.b3.k, x42⟩, a.p.r0, a.p.r1, a.p.r2, a.p.r3, x44⟩ ⟨x.vars, x.gone, putTip x.tips k a.m.d.l⟩ := ⟨h39.p1, h39.p2, hput⟩
      have c1 : a.p.r0 < (a.g.cells.l : Int) := by have := hX.nc; have q1 : a.p.r0 < (X.nc : Int) := q1; omega
      have c2 : a.p.r2 < (a.g.stakes.l : Int) := by have := hX.ns; have q5 : a.p.r2 < (X.ns : Int) := q5; omega
      have c3 : a.g.stakes.l ≤ 8 := by omega
      have c4 : a.g.cells.l ≤ 1000 := by omega
      refine ⟨by repeat' first | with_reducible apply And.intro | exact trivial | exact rfl | assumption, ⟨trivial, ⟨hf0, ⟨_, hPP⟩, X, hX⟩, ⟨hs.1, hs.2⟩, c3, ⟨e1, e2, rfl⟩, ⟨q0, c1⟩, ⟨q2, q3⟩, ⟨q4, c2⟩, h44, c4⟩, by repeat' first | with_reducible apply And.intro | exact trivial | exact rfl | assumption, fun x47 h47 => ?_, trivial⟩
      obtain ⟨z, hz1, hz2⟩ := h47 _ X hPP hX
      have fz := hz1.p1.flat
      refine ⟨⟨⟨a.p.s1.n, 0, a.p.s1.l, x39.b1.k, x47.c⟩, ⟨a.p.s2.n, 0, a.p.s2.l, x39.b2.k, x39.b2.c⟩, ⟨a.p.s3.n, 0, a.p.s3.l, x39.b3.k, x42⟩, x47.r0, x47.r1, x47.r2, x47.r3, x47.r4⟩, SOME _ ⟨z, hz1, ?_⟩, by repeat' first | with_reducible apply And.intro | exact trivial | exact rfl | assumption⟩
      rw [hD]
      show (if a.m.t ≠ decide (¬ zR (a.p.ps x)) then _ else _) = _
      rw [if_neg hmt, if_neg hnz', if_neg (not_not_intro hoc)]
      show Except.ok (passX X (shownX (a.p.ps x) a.s.toNat a.m.d) a.s.toNat) = Except.ok _
      have hz2 : (⟨z, x47.r0, x47.r1, x47.r2, x47.r3, x47.r4⟩ : PsX) = passX X ⟨⟨x.vars, x.gone, putTip x.tips k a.m.d.l⟩, a.p.r0, a.p.r1, a.p.r2, a.p.r3, x44⟩ a.s.toNat := hz2
      show _ = Except.ok (⟨z, x47.r0, x47.r1, x47.r2, x47.r3, x47.r4⟩ : PsX)
      rw [hz2]
      unfold shownX
      rw [e44', hkt]
  · have hz' : zR (a.p.ps x) := ⟨hz.1, hz.2.1, hz.2.2.1, hz.2.2.2.1, hz.2.2.2.2.1⟩
    have heq' : turnX X (a.p.ps x) = a.s := by rw [← h8]; exact Classical.not_not.1 heq
    have hge' : ¬ turnX X (a.p.ps x) < 0 := by rw [← h8]; exact hge
    have hD := fun m => do_rest (m := m) hc0 hge' heq'
    have hs : 0 ≤ a.s ∧ a.s < (a.g.stakes.l : Int) := by
      have h1 := turnX_lt (X := X) hz'
      have h2 := hX.ns
      rw [heq'] at h1 hge'
      rcases h1 with h1 | h1
      · omega
      · omega
    have hdec : decide (¬ zR (a.p.ps x)) = false := decide_eq_false (not_not_intro hz')
    refine ⟨fun ht => ⟨⟨14⟩, ERR 14 (by decide) (by rw [hD]; exact if_pos (by rw [hdec]; exact fun q => ht q.symm)), by repeat' first | with_reducible apply And.intro | exact trivial | exact rfl | assumption⟩, fun ht => ?_⟩
    have ht' : a.m.t = false := (Classical.not_not.1 ht).symm
    have hmt : ¬ a.m.t ≠ decide (¬ zR (a.p.ps x)) := by rw [hdec, ht']; exact not_not_intro rfl
    have hD2 : doX X (a.p.ps x) a.s ⟨a.m.t, gs, a.m.d⟩ = playE (playX X (a.p.ps x) a.s.toNat gs) := by
      rw [hD]
      show (if a.m.t ≠ decide (¬ zR (a.p.ps x)) then _ else _) = _
      rw [if_neg hmt, if_pos hz']
    refine ⟨⟨trivial, hg0, ⟨x, hp, hw32⟩, ⟨gs, hgs, hwg⟩, ⟨hs.1, hs.2⟩, hv, e1, e2, e3⟩, by repeat' first | with_reducible apply And.intro | exact trivial | exact rfl | assumption, fun x70 h70 => ?_, fun _ h80 => ?_, trivial⟩
    · obtain ⟨z, hz1, hz2⟩ := h70 _ _ _ hp hX hgs
      have hz2 : playX X (a.p.ps x) a.s.toNat gs = some (x70.ps z) := hz2
      have fz1 := hz1.p1.flat
      have fz2 := hz1.p2.flat
      have fz3 := hz1.p3.flat
      refine ⟨x70, SOME _ ⟨z, hz1, ?_⟩, by repeat' first | with_reducible apply And.intro | exact trivial | exact rfl | assumption⟩
      rw [hD2, hz2]; rfl
    · have h80 : playX X (a.p.ps x) a.s.toNat gs = none := h80 _ _ _ hp hX hgs
      exact ⟨⟨14⟩, ERR 14 (by decide) (by rw [hD2, h80]; rfl), by repeat' first | with_reducible apply And.intro | exact trivial | exact rfl | assumption⟩
theorem s_do : SpecOK Tryz.prog S_do.spec := fun a K ⟨hg, ⟨⟨x, hp, hw, hb⟩, hl⟩, ⟨gs, hgs, hwg⟩, hd, hv⟩ hq => specD_at (an := []) envOK (cwN_ok (fun _ h => cwD_ok s_check (cwD_ok s_turn (cwD_ok s_play (cwD_ok s_clone (cwD_ok s_hone (cwD_ok s_hnum (cwD_ok s_pass h))))))) 3) (fun _ => by obtain ⟨X, hX, hW⟩ := hg.x; exact g_do a x X gs hg hp hw hb hX hgs hwg hd hv hl) K ⟨hg, ⟨⟨x, hp, hw, hb⟩, hl⟩, ⟨gs, hgs, hwg⟩, hd, hv⟩ hq
theorem sil_chk {X : GX} {s : PsX} {k e : Int} (h : checkX X s = e) (he : e ≠ 0) : silX X s k = .error e := by unfold silX; rw [if_pos (by rw [h]; exact he), h]
theorem sil_seat {X : GX} {s : PsX} {k : Int} (h : checkX X s = 0) (h1 : ¬ (0 ≤ k ∧ k < X.ns)) : silX X s k = .error 28 := by unfold silX; rw [if_neg (not_not_intro h), if_pos h1]
theorem sil_rest {X : GX} {s : PsX} {k : Int} (h : checkX X s = 0) (h1 : 0 ≤ k ∧ k < X.ns) : silX X s k = (if turnX X s < 0 then .error 15 else
  if s.x.gone.getD k.toNat false = true then .error 7 else if (silM X s k).halt ≠ 1 then .error 10 else
  if ¬ zR s ∧ s.r3 = k then .ok (passX X (goneX X s k) k.toNat) else .ok (goneX X s k)) := by unfold silX; rw [if_neg (not_not_intro h), if_neg (not_not_intro h1)]
set_option maxHeartbeats 1600000 in
theorem g_sil (a : BhA) (x : PX) (X : GX) (hg : GOk a.g) (hp : PH a.p x) (hw : PW a.p x) (hX : GH a.g X) (hl : a.p.s1.l ≤ 1000 ∧ a.p.s2.l ≤ 1000 ∧ a.p.s3.l ≤ 1000) (hno : checkX X (a.p.ps x) = 0 → 0 ≤ a.s ∧ a.s < X.ns → (silM X (a.p.ps x) a.s).halt ≠ 2) : G_sil a := by
  have hg0 := hg
  obtain ⟨hf, hcd, hns, hnc, hnf, hnp, ⟨hm0, hm1, hm2, hm3, hm4⟩, -⟩ := hg
  have hf0 := hf
  obtain ⟨g1, g2, gc⟩ := hf
  obtain ⟨f1, f2, f3, f4, f5, f6, f7⟩ := gc
  have fo := opsFlat
  have p1 := hp.p1.flat
  have p2 := hp.p2.flat
  have p3 := hp.p3.flat
  obtain ⟨hl1, hl2, hl3⟩ := hl
  have hw32 : W32 x.vars := hw.v
  have hcd0 := hcd
  obtain ⟨⟨⟨hn0, hn1⟩, hse0, hse1⟩, -⟩ := hcd
  have ERR : ∀ e : Int, e ≠ 0 → silX X (a.p.ps x) a.s = .error e → (e ≠ 0 ∧ ∀ (y : PX) (Y : GX), PH a.p y → GH a.g Y → silX Y (a.p.ps y) a.s = .error e) := fun e he h => ⟨he, fun y Y hy hY => by rw [PH.uniq hy hp, GH.uniq hY hX]; exact h⟩
  have SOME : ∀ (b : PA), (∃ y, PH b y ∧ silX X (a.p.ps x) a.s = .ok (b.ps y)) → ∀ (y : PX) (Y : GX), PH a.p y → GH a.g Y → ∃ z, PH b z ∧ silX Y (a.p.ps y) a.s = .ok (b.ps z) := fun b h y Y hy hY => by rw [PH.uniq hy hp, GH.uniq hY hX]; exact h
  have a3 : a.3 = a.s := rfl
  rw [vc_sil]
  refine ⟨⟨trivial, hf0, ⟨x, hp⟩, ⟨X.cells, hX.cells⟩, hl1⟩, by repeat' first | with_reducible apply And.intro | exact trivial | exact rfl | assumption, fun _ hok => ?_, fun _ h => ⟨⟨3⟩, ERR 3 (by decide) (sil_chk (chk3 (a := ⟨a.g, a.p⟩) hp hX h) (by decide)), by repeat' first | with_reducible apply And.intro | exact trivial | exact rfl | assumption⟩, fun _ h => ⟨⟨2⟩, ERR 2 (by decide) (sil_chk (chk2 (a := ⟨a.g, a.p⟩) hp hX h) (by decide)), by repeat' first | with_reducible apply And.intro | exact trivial | exact rfl | assumption⟩, trivial⟩
  have hc0 : checkX X (a.p.ps x) = 0 := chk0 (a := ⟨a.g, a.p⟩) hp hX hok
  have hlen : lenOK ⟨a.g, a.p⟩ := hok.1
  have hlX := (lenOK_iff (a := ⟨a.g, a.p⟩) hp hX).1 hlen
  have hin : inX X (a.p.ps x) := by
    have := hc0; unfold checkX at this; rw [if_pos hlX] at this
    by_cases h : inX X (a.p.ps x)
    · exact h
    · rw [if_neg h] at this; exact absurd this (by decide)
  have e1 : a.p.s1.l = a.g.cells.l := hlen.1
  have e2 : a.p.s2.l = a.g.stakes.l := hlen.2.1
  have e3 : a.p.s3.l = a.g.stakes.l := hlen.2.2
  have hXns := hX.ns
  refine ⟨⟨trivial, hf0⟩, by repeat' first | with_reducible apply And.intro | exact trivial | exact rfl | assumption, fun _ hs => ?_, fun _ hs => ⟨⟨28⟩, ERR 28 (by decide) (sil_seat hc0 (by rw [← hXns]; exact hs)), by repeat' first | with_reducible apply And.intro | exact trivial | exact rfl | assumption⟩, trivial⟩
  have hsX : 0 ≤ a.s ∧ a.s < (X.ns : Int) := by rw [← hXns]; exact hs
  have hno := hno hc0 hsX
  have hD := sil_rest hc0 hsX
  refine ⟨⟨trivial, ⟨hf0, hcd0, hm1, hl1⟩, ⟨x, hp, hw32⟩, ⟨X.cells, hX.cells⟩, X.w1, hX.w1⟩, by repeat' first | with_reducible apply And.intro | exact trivial | exact rfl | assumption, fun x9 h9 => ?_, trivial⟩
  have h9 : x9.k = turnX X (a.p.ps x) := (h9 _ _ _ hp hX.cells hX.w1).trans (turnX_eq (a := ⟨a.g, a.p⟩) hg0 hp hX)
  refine ⟨fun hlt => ⟨⟨15⟩, ERR 15 (by decide) (by rw [hD, if_pos (by rw [← h9]; exact hlt)]), by repeat' first | with_reducible apply And.intro | exact trivial | exact rfl | assumption⟩, fun hge => ?_⟩
  have hge' : ¬ turnX X (a.p.ps x) < 0 := by rw [← h9]; exact hge
  rw [if_neg hge'] at hD
  obtain ⟨k, hk⟩ : ∃ k : Nat, a.s = k := ⟨a.s.toNat, by omega⟩
  have hkt : a.s.toNat = k := by omega
  have hs0 : 0 ≤ a.s := hs.1
  have hs1 : a.s < (a.g.stakes.l : Int) := hs.2
  have hkl : k < a.p.s2.l := by omega
  have hs2 : a.s < (a.p.s2.l : Int) := by omega
  refine ⟨⟨hs.1, hs2⟩, fun x16 e16 => ⟨x.gone.getD k false, goneRd hp hkl (by rw [e16, a3, hkt]; show _ = _; omega), fun hb => ⟨⟨7⟩, ERR 7 (by decide) (by rw [hD, if_pos (by rw [hkt]; exact hb)]), by repeat' first | with_reducible apply And.intro | exact trivial | exact rfl | assumption⟩, fun hb x21 e21 => ?_⟩⟩
  rw [if_neg (by rw [hkt]; show ¬ x.gone.getD k false = true; rw [hb]; decide)] at hD
  have h21 : x21 = a.s := by rw [e21, a3, wrap_i32]; omega
  have hS21 : Sli (Value.int .i32) 1 false 0 1 1 [tgI .i32 x21] [x21] := Sli.row HW.one rfl (Nat.le_refl _) HW.one.flat
  have f21 := hS21.flat
  have hw21 : W32 [x21] := fun z hz => by rw [List.mem_singleton.1 hz]; omega
  have hlc : (a.p.s1.l : Int) = a.g.code.cells := by omega
  have hcT : a.g.code.cells.toNat = X.nc := by have := hX.nc; omega
  have hXnc := hX.nc
  have hxl : x.vars.length = X.nc := hlX.1
  have hM : ∀ {q : MS → Prop}, q (lastC x.vars ([x21] ++ z48) X.w3 a.g.code.m3) → q (silM X (a.p.ps x) a.s) := fun {q} h => by unfold silM; rw [← hX.m3, ← h21]; exact h
  refine ⟨⟨trivial, ⟨hcd0, rfl, hm3⟩, ⟨x.vars, hp.p1, hw32⟩, ⟨[x21], hS21, hw21⟩, X.w3, hX.w3⟩, by repeat' first | with_reducible apply And.intro | exact trivial | exact rfl | assumption, fun x25 h25 => ?_, fun _ h => ?_, fun _ h => ?_, fun _ h => ?_, trivial⟩
  · obtain ⟨⟨q1, q2⟩, h25⟩ := h25
    obtain ⟨r1, r2⟩ := h25 _ _ _ hp.p1 hS21 hX.w3
    have q2 : a.g.code.cells ≤ (x25.k : Int) := q2
    have hh : (silM X (a.p.ps x) a.s).halt = 1 := hM (q := fun m => m.halt = 1) r1
    rw [if_neg (not_not_intro hh)] at hD
    have r2' : HE .i32 x25.c ((silM X (a.p.ps x) a.s).mem.take X.nc) := hM (q := fun m => HE .i32 x25.c (m.mem.take X.nc)) (by rw [← hcT]; exact r2)
    have hml : (silM X (a.p.ps x) a.s).mem.length = X.nc + (1 + 48) := by
      show (runC _ _ _).mem.length = _
      rw [runC_len]
      show (x.vars ++ (a.s :: List.replicate 48 0)).length = _
      rw [List.length_append, List.length_cons, List.length_replicate, hxl]
    have hSv : Sli (Value.int .i32) 1 false 0 a.g.code.cells.toNat x25.k x25.c ((silM X (a.p.ps x) a.s).mem.take X.nc) := he_sli r2' (by rw [List.length_take]; omega) (by omega)
    have f25 := hSv.flat
    refine ⟨by repeat' first | with_reducible apply And.intro | exact trivial | exact rfl | assumption, ⟨trivial, ⟨x, hp⟩, hl1, hl2, hl3⟩, by repeat' first | with_reducible apply And.intro | exact trivial | exact rfl | assumption, fun x30 h30 => ⟨⟨hs.1, hs2⟩, fun x32 e32 => ?_⟩, trivial⟩
    have h30 := h30 x hp
    have e32' : x32 = k * 1 := by rw [e32, a3, hkt]; omega
    have hput := Sli.putW h30.p2 hkl hwB1 rfl flB1
    have hgl : x.gone.length = a.p.s2.l := by have := hp.p2.len; omega
    rw [set_take (by omega)] at hput
    have hn2 : a.p.s2.n = false := by
      cases hb : a.p.s2.n with
      | false => rfl
      | true => have := (hp.p2.nil hb).1; omega
    have hfit : 0 + a.p.s2.l * 1 ≤ x30.b2.c.length := h30.p2.fit hn2
    have hfit2 : k * 1 + 1 ≤ x30.b2.c.length := by omega
    refine ⟨by rw [e32']; exact hfit2, fun x33 e33 => ?_⟩
    rw [e32'] at e33
    rw [← e33] at hput
    have hput : Sli Value.bool 1 a.p.s2.n 0 a.p.s2.l x30.b2.k x33 (x.gone.set k true) := hput
    have f33 := hput.flat
    have f30 := h30.p3.flat
    have hPP : PH ⟨⟨false, 0, a.g.code.cells.toNat, x25.k, x25.c⟩, ⟨a.p.s2.n, 0, a.p.s2.l, x30.b2.k, x33⟩, ⟨a.p.s3.n, 0, a.p.s3.l, x30.b3.k, x30.b3.c⟩, a.p.r0, a.p.r1, a.p.r2, a.p.r3, a.p.r4⟩ ⟨(silM X (a.p.ps x) a.s).mem.take X.nc, x.gone.set k true, x.tips⟩ := ⟨hSv, hput, h30.p3⟩
    have hgX : goneX X (a.p.ps x) a.s = ⟨⟨(silM X (a.p.ps x) a.s).mem.take X.nc, x.gone.set k true, x.tips⟩, a.p.r0, a.p.r1, a.p.r2, a.p.r3, a.p.r4⟩ := by unfold goneX; rw [hkt]
    refine ⟨fun hnz => ?_, fun hz => ?_⟩
    · have hnz' : ¬ zR (a.p.ps x) := fun q => hnz ⟨q.1, q.2.1, q.2.2.1, q.2.2.2.1, q.2.2.2.2, trivial⟩
      refine ⟨fun hr => ?_, fun hr => ?_⟩
      · have hR : okR X (a.p.ps x) := hin.2.resolve_left hnz'
        obtain ⟨⟨u0, u1⟩, ⟨u2, u3⟩, ⟨u4, u5⟩, -, -⟩ := hR
        have c1 : a.p.r0 < (a.g.cells.l : Int) := by have u1 : a.p.r0 < (X.nc : Int) := u1; omega
        have c2 : a.p.r2 < (a.g.stakes.l : Int) := by have u5 : a.p.r2 < (X.ns : Int) := u5; omega
        have c3 : a.g.stakes.l ≤ 8 := by omega
        have c4 : a.g.cells.l ≤ 1000 := by omega
        have c5 : a.g.code.cells.toNat = a.g.cells.l := by omega
        have c6 : 0 ≤ a.p.r4 ∧ a.p.r4 < 18446744073709551616 := ⟨hw.r4.1, by have := hw.r4.2; omega⟩
        refine ⟨⟨trivial, ⟨hf0, ⟨_, hPP⟩, X, hX⟩, ⟨hs.1, hs.2⟩, c3, ⟨c5, e2, rfl⟩, ⟨u0, c1⟩, ⟨u2, u3⟩, ⟨u4, c2⟩, c6, c4⟩, by repeat' first | with_reducible apply And.intro | exact trivial | exact rfl | assumption, fun x36 h36 => ?_, trivial⟩
        obtain ⟨z, hz1, hz2⟩ := h36 _ X hPP hX
        have fz := hz1.p1.flat
        refine ⟨⟨⟨false, 0, a.g.code.cells.toNat, x25.k, x36.c⟩, ⟨a.p.s2.n, 0, a.p.s2.l, x30.b2.k, x33⟩, ⟨a.p.s3.n, 0, a.p.s3.l, x30.b3.k, x30.b3.c⟩, x36.r0, x36.r1, x36.r2, x36.r3, x36.r4⟩, SOME _ ⟨z, hz1, ?_⟩, by repeat' first | with_reducible apply And.intro | exact trivial | exact rfl | assumption⟩
        rw [hD, if_pos ⟨hnz', hr⟩, hgX]
        exact congrArg Except.ok hz2.symm
      · refine ⟨⟨⟨false, 0, a.g.code.cells.toNat, x25.k, x25.c⟩, ⟨a.p.s2.n, 0, a.p.s2.l, x30.b2.k, x33⟩, ⟨a.p.s3.n, 0, a.p.s3.l, x30.b3.k, x30.b3.c⟩, a.p.r0, a.p.r1, a.p.r2, a.p.r3, a.p.r4⟩, SOME _ ⟨_, hPP, ?_⟩, by repeat' first | with_reducible apply And.intro | exact trivial | exact rfl | assumption⟩
        rw [hD, if_neg (fun q => hr q.2), hgX]
    · have hz' : zR (a.p.ps x) := ⟨hz.1, hz.2.1, hz.2.2.1, hz.2.2.2.1, hz.2.2.2.2.1⟩
      refine ⟨⟨⟨false, 0, a.g.code.cells.toNat, x25.k, x25.c⟩, ⟨a.p.s2.n, 0, a.p.s2.l, x30.b2.k, x33⟩, ⟨a.p.s3.n, 0, a.p.s3.l, x30.b3.k, x30.b3.c⟩, a.p.r0, a.p.r1, a.p.r2, a.p.r3, a.p.r4⟩, SOME _ ⟨_, hPP, ?_⟩, by repeat' first | with_reducible apply And.intro | exact trivial | exact rfl | assumption⟩
      rw [hD, if_neg (fun q => q.1 hz'), hgX]
  · exact absurd (hM (q := fun m => m.halt = 2) (h.2 _ _ _ hp.p1 hS21 hX.w3)) hno
  · have h2 := h.2 _ _ _ hp.p1 hS21 hX.w3
    have h2 : (silM X (a.p.ps x) a.s).halt ≠ 1 := hM (q := fun m => m.halt ≠ 1) h2.1
    exact ⟨by repeat' first | with_reducible apply And.intro | exact trivial | exact rfl | assumption, ⟨10⟩, ERR 10 (by decide) (by rw [hD, if_pos h2]), by repeat' first | with_reducible apply And.intro | exact trivial | exact rfl | assumption⟩
  · exact absurd hlc h
theorem s_sil : SpecOK Tryz.prog S_sil.spec := fun a K ⟨hg, ⟨⟨x, hp, hw, hb⟩, hl⟩, hno⟩ hq => specD_at (an := []) envOK (cwN_ok (fun _ h => cwD_ok s_check (cwD_ok s_seat (cwD_ok s_turn (cwP_ok s_run3 (cwD_ok s_clone (cwD_ok s_pass h)))))) 3) (fun _ => by obtain ⟨X, hX, hW⟩ := hg.x; exact g_sil a x X hg hp hw hX hl (hno x X hp hX)) K ⟨hg, ⟨⟨x, hp, hw, hb⟩, hl⟩, hno⟩ hq
end Go.Proofs.YtdjnipabfbblnaaGreatDoor
