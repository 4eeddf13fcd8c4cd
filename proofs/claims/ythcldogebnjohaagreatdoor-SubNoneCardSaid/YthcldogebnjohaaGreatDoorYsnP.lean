/- A stack of one table is what is told of it. -/
import Derived.Test.YthcldogebnjohaaGreatDoorYckP
import Derived.Test.YthcldogebnjohaaGreatDoorYnum
section
set_option maxRecDepth 100000
namespace Go.Proofs.YthcldogebnjohaaGreatDoor
open Go.Ev
set_option linter.unusedSectionVars false
variable [Go.Ev.Frozen Tryz.prog]
noncomputable section
def W_G_new_0 : NwA → Option AO := fun (a : NwA) => Option.some (AO.row [Value.iface (1000000009 : Nat) (Value.agg (Array.mk [Value.bool a.3.1, Value.slice (Option.some (Addr.mk (18 : Nat) a.3.2 Option.none)) a.3.3
a.3.4]))] (22 : Nat) Md.own)
def W_G_new_1 : NwA → Option AO := fun (a : NwA) => Option.some (AO.row a.3.5 (3 : Nat) Md.gro)
def W_G_new_2 : NwA → Option AO := fun (a : NwA) => Option.some (AO.row [Value.pointer (Option.some (Addr.mk (12 : Nat) (0 : Nat) Option.none)), Value.iface (1000000009 : Nat) (Value.agg (Array.mk [Value.bool
a.2.1.1, Value.slice (Option.some (Addr.mk (15 : Nat) a.2.1.2 Option.none)) a.2.1.3 a.2.1.4])), Value.iface (1000000009 : Nat) (Value.agg (Array.mk [Value.bool a.2.2.1, Value.slice
(Option.some (Addr.mk (16 : Nat) a.2.2.2 Option.none)) a.2.2.3 a.2.2.4])), Value.iface (1000000009 : Nat) (Value.agg (Array.mk [Value.bool a.2.3.1, Value.slice (Option.some
(Addr.mk (17 : Nat) a.2.3.2 Option.none)) a.2.3.3 a.2.3.4])), Value.iface (1000000007 : Nat) (Value.int IntKind.i64 a.2.4), Value.iface (1000000007 : Nat) (Value.int IntKind.i64
a.2.5), Value.iface (1000000007 : Nat) (Value.int IntKind.i64 a.2.6), Value.iface (1000000007 : Nat) (Value.int IntKind.i64 a.2.7), Value.iface (1000000007 : Nat) (Value.int
IntKind.u64 a.2.8), Value.iface (1000000009 : Nat) (Value.agg (Array.mk [Value.bool a.3.1, Value.slice (Option.some (Addr.mk (18 : Nat) a.3.2 Option.none)) a.3.3 a.3.4]))] (76 :
Nat) Md.own)
end
structure GW (p : Prop) : Prop where
  h : p
theorem specG_at {E : Env} {cw : CW} (hE : EnvOK Tryz.prog E) (hcw : CwOK Tryz.prog cw) {S : SpecD} {an : Anns} {a : S.α} (h : S.pre a → GW (fnW Tryz.prog E cw an S.f (S.args a) (mem (S.R a) S.n) (endD Tryz.prog S a))) : SpecAt Tryz.prog S.spec a := specD_at (an := an) hE hcw fun hp => (h hp).h
theorem vc_new (a : NwA) : G_new a = ((True ∧ rlF a.1 ∧ (∃ (x0 : PX), PH a.2 x0) ∧ (∃ (x1 : List Int), Sli (Value.int IntKind.i32) (2 : Nat) a.1.2.1 a.1.2.2 a.1.2.3 a.1.2.4 a.1.2.5 x1) ∧ a.2.1.3 ≤ (1000 : Nat)) ∧ (((0
: Nat) = (0 : Nat) ∧ ((a.2.1.1 = a.2.1.1 ∧ a.2.1.2 = a.2.1.2 ∧ a.2.1.3 = a.2.1.3 ∧ a.2.1.4 = a.2.1.4) ∧ (a.2.2.1 = a.2.2.1 ∧ a.2.2.2 = a.2.2.2 ∧ a.2.2.3 = a.2.2.3 ∧ a.2.2.4 =
a.2.2.4) ∧ (a.2.3.1 = a.2.3.1 ∧ a.2.3.2 = a.2.3.2 ∧ a.2.3.3 = a.2.3.3 ∧ a.2.3.4 = a.2.3.4) ∧ a.2.4 = a.2.4 ∧ a.2.5 = a.2.5 ∧ a.2.6 = a.2.6 ∧ a.2.7 = a.2.7 ∧ a.2.8 = a.2.8 ∧ True) ∧
True) ∧ (True ∧ True ∧ (a.1.1.1 = a.1.1.1 ∧ a.1.1.2 = a.1.1.2 ∧ a.1.1.3 = a.1.1.3 ∧ a.1.1.4 = a.1.1.4) ∧ True ∧ True ∧ True ∧ True ∧ True ∧ True ∧ True ∧ True ∧ True ∧ True ∧
(a.1.2.1 = a.1.2.1 ∧ a.1.2.2 = a.1.2.2 ∧ a.1.2.3 = a.1.2.3 ∧ a.1.2.4 = a.1.2.4) ∧ True) ∧ (True ∧ FlatL a.1.1.5 ∧ a.1.1.5 = a.1.1.5) ∧ (True ∧ FlatL a.1.2.5 ∧ a.1.2.5 = a.1.2.5) ∧
(True ∧ FlatL a.2.1.5 ∧ a.2.1.5 = a.2.1.5) ∧ (True ∧ FlatL a.2.2.5 ∧ a.2.2.5 = a.2.2.5) ∧ (True ∧ FlatL a.2.3.5 ∧ a.2.3.5 = a.2.3.5) ∧ True) ∧ (∀ (x2 : Unit), ((a.2.1.3 = a.1.2.3 ∧
a.2.2.3 = a.1.1.3 ∧ a.2.3.3 = a.1.1.3) ∧ ∀ (x3 : PX) (x4 : List Int), PH a.2 x3 → Sli (Value.int IntKind.i32) (2 : Nat) a.1.2.1 a.1.2.2 a.1.2.3 a.1.2.4 a.1.2.5 x4 → inAll x4 x3.1
a.2.1.3 ∧ (rollZ a.2 ∨ rollOK a.1.2.3 a.1.1.3 a.2 x3)) → ∀ (x5 : Int), x5 = (↑a.3.3 : Int) → (True ∧ FlatL a.1.1.5 ∧ FlatL a.1.2.5) ∧ (((0 : Nat) = (0 : Nat) ∧ True) ∧ (True ∧ True
∧ (a.1.1.1 = a.1.1.1 ∧ a.1.1.2 = a.1.1.2 ∧ a.1.1.3 = a.1.1.3 ∧ a.1.1.4 = a.1.1.4) ∧ True ∧ True ∧ True ∧ True ∧ True ∧ True ∧ True ∧ True ∧ True ∧ True ∧ (a.1.2.1 = a.1.2.1 ∧
a.1.2.2 = a.1.2.2 ∧ a.1.2.3 = a.1.2.3 ∧ a.1.2.4 = a.1.2.4) ∧ True) ∧ (True ∧ FlatL a.1.1.5 ∧ a.1.1.5 = a.1.1.5) ∧ (True ∧ FlatL a.1.2.5 ∧ a.1.2.5 = a.1.2.5) ∧ True) ∧ (∀ (x6 :
Unit), True → (x5 = (↑a.1.1.3 : Int) → ((W_G_new_0 a = W_G_new_0 a ∧ True) ∧ (W_G_new_1 a = W_G_new_1 a ∧ True) ∧ True ∧ True ∧ True ∧ True ∧ True ∧ True) ∧ (True ∧ (∃ (x7 : List
Int), Sli (Value.int IntKind.i64) (1 : Nat) a.3.1 a.3.2 a.3.3 a.3.4 a.3.5 x7) ∧ a.3.3 ≤ (1000 : Nat)) ∧ (((a.3.1 = a.3.1 ∧ a.3.2 = a.3.2 ∧ a.3.3 = a.3.3 ∧ a.3.4 = a.3.4) ∧ (True ∧
True) ∧ True) ∧ (True ∧ FlatL a.3.5 ∧ a.3.5 = a.3.5) ∧ True) ∧ (∀ (x8 : Unit), (∀ (x9 : List Int), Sli (Value.int IntKind.i64) (1 : Nat) a.3.1 a.3.2 a.3.3 a.3.4 a.3.5 x9 → inRt x9)
→ (True ∧ (∃ (x10 : List Int), Sli (Value.int IntKind.i64) (1 : Nat) a.3.1 a.3.2 a.3.3 a.3.4 a.3.5 x10) ∧ a.3.3 ≤ (1000 : Nat)) ∧ (((a.3.1 = a.3.1 ∧ a.3.2 = a.3.2 ∧ a.3.3 = a.3.3 ∧
a.3.4 = a.3.4) ∧ True) ∧ (True ∧ FlatL a.3.5 ∧ a.3.5 = a.3.5) ∧ True) ∧ (∀ (x11 : NK), (∀ (x12 : List Int), Sli (Value.int IntKind.i64) (1 : Nat) a.3.1 a.3.2 a.3.3 a.3.4 a.3.5 x12
→ x11.1 = sumC x12) → ((0 : Int) ≤ x11.1 → (x11.1 ≤ (1125899906842624 : Int) → (True ∧ (∃ (x13 : PX), PH a.2 x13) ∧ a.2.1.3 ≤ (1000 : Nat) ∧ a.2.2.3 ≤ (1000 : Nat) ∧ a.2.3.3 ≤
(1000 : Nat)) ∧ ((((a.2.1.1 = a.2.1.1 ∧ a.2.1.2 = a.2.1.2 ∧ a.2.1.3 = a.2.1.3 ∧ a.2.1.4 = a.2.1.4) ∧ (a.2.2.1 = a.2.2.1 ∧ a.2.2.2 = a.2.2.2 ∧ a.2.2.3 = a.2.2.3 ∧ a.2.2.4 = a.2.2.4)
∧ (a.2.3.1 = a.2.3.1 ∧ a.2.3.2 = a.2.3.2 ∧ a.2.3.3 = a.2.3.3 ∧ a.2.3.4 = a.2.3.4) ∧ a.2.4 = a.2.4 ∧ a.2.5 = a.2.5 ∧ a.2.6 = a.2.6 ∧ a.2.7 = a.2.7 ∧ a.2.8 = a.2.8 ∧ True) ∧ True) ∧
(True ∧ FlatL a.2.1.5 ∧ a.2.1.5 = a.2.1.5) ∧ (True ∧ FlatL a.2.2.5 ∧ a.2.2.5 = a.2.2.5) ∧ (True ∧ FlatL a.2.3.5 ∧ a.2.3.5 = a.2.3.5) ∧ True) ∧ (∀ (x14 : PB), (∀ (x15 : PX), PH a.2
x15 → PH (PA.mk (SA.mk a.2.1.1 (0 : Nat) a.2.1.3 x14.1.1 x14.1.2) (SA.mk a.2.2.1 (0 : Nat) a.2.2.3 x14.2.1 x14.2.2) (SA.mk a.2.3.1 (0 : Nat) a.2.3.3 x14.3.1 x14.3.2) a.2.4 a.2.5
a.2.6 a.2.7 a.2.8) x15) → (True ∧ (∃ (x16 : List Int), Sli (Value.int IntKind.i64) (1 : Nat) a.3.1 a.3.2 a.3.3 a.3.4 a.3.5 x16) ∧ a.3.3 ≤ (1000 : Nat)) ∧ (((a.3.1 = a.3.1 ∧ a.3.2 =
a.3.2 ∧ a.3.3 = a.3.3 ∧ a.3.4 = a.3.4) ∧ True) ∧ (True ∧ FlatL a.3.5 ∧ a.3.5 = a.3.5) ∧ True) ∧ (∀ (x17 : RW), (∀ (x18 : List Int), Sli (Value.int IntKind.i64) (1 : Nat) a.3.1
a.3.2 a.3.3 a.3.4 a.3.5 x18 → Sli (Value.int IntKind.i64) (1 : Nat) a.3.1 (0 : Nat) a.3.3 x17.1 x17.2 x18) → ((True ∧ True ∧ True) ∧ (True ∧ True ∧ True) ∧ (True ∧ True ∧ True) ∧
(W_G_new_2 a = W_G_new_2 a ∧ W_G_new_2 a = W_G_new_2 a ∧ True) ∧ True ∧ True ∧ True ∧ True ∧ True ∧ (True ∧ True) ∧ (True ∧ True) ∧ (True ∧ True) ∧ (W_G_new_2 a = W_G_new_2 a ∧
True) ∧ True ∧ True ∧ True ∧ True) ∧ ∃ (x19 : NwO), ((a.2.1.3 = a.1.2.3 ∧ a.3.3 = a.1.1.3) ∧ (∀ (x20 : List Int), Sli (Value.int IntKind.i64) (1 : Nat) a.3.1 a.3.2 a.3.3 a.3.4
a.3.5 x20 → (inRt x20 ∧ rightP (sumC x20)) ∧ Sli (Value.int IntKind.i64) (1 : Nat) a.3.1 (0 : Nat) a.3.3 x19.2.1 x19.2.2 x20) ∧ ∀ (x21 : PX), PH a.2 x21 → PH (PA.mk (SA.mk a.2.1.1
(0 : Nat) a.2.1.3 x19.1.1.1 x19.1.1.2) (SA.mk a.2.2.1 (0 : Nat) a.2.2.3 x19.1.2.1 x19.1.2.2) (SA.mk a.2.3.1 (0 : Nat) a.2.3.3 x19.1.3.1 x19.1.3.2) a.2.4 a.2.5 a.2.6 a.2.7 a.2.8)
x21) ∧ ((0 : Nat) = (0 : Nat) ∧ (0 : Int) = (0 : Int) ∧ True) ∧ (True ∧ ((0 : Nat) = (0 : Nat) ∧ (1 : Nat) = (1 : Nat) ∧ (1 : Nat) = (1 : Nat)) ∧ True) ∧ (True ∧ (0 : Nat) = (0 :
Nat) ∧ (a.2.1.1 = a.2.1.1 ∧ nat_lit 0 = (0 : Nat) ∧ a.2.1.3 = a.2.1.3 ∧ x19.1.1.1 = x14.1.1) ∧ (a.2.2.1 = a.2.2.1 ∧ nat_lit 0 = (0 : Nat) ∧ a.2.2.3 = a.2.2.3 ∧ x19.1.2.1 = x14.2.1)
∧ (a.2.3.1 = a.2.3.1 ∧ nat_lit 0 = (0 : Nat) ∧ a.2.3.3 = a.2.3.3 ∧ x19.1.3.1 = x14.3.1) ∧ a.2.4 = a.2.4 ∧ a.2.5 = a.2.5 ∧ a.2.6 = a.2.6 ∧ a.2.7 = a.2.7 ∧ a.2.8 = a.2.8 ∧ (a.3.1 =
a.3.1 ∧ nat_lit 0 = (0 : Nat) ∧ a.3.3 = a.3.3 ∧ x19.2.1 = x17.1) ∧ True) ∧ (x19.1.1.1 = x14.1.1 ∧ FlatL x19.1.1.2 ∧ x19.1.1.2 = x14.1.2) ∧ (x19.1.2.1 = x14.2.1 ∧ FlatL x19.1.2.2 ∧
x19.1.2.2 = x14.2.2) ∧ (x19.1.3.1 = x14.3.1 ∧ FlatL x19.1.3.2 ∧ x19.1.3.2 = x14.3.2) ∧ (x19.2.1 = x17.1 ∧ FlatL x19.2.2 ∧ x19.2.2 = x17.2) ∧ True) ∧ True) ∧ True) ∧ (¬x11.1 ≤
(1125899906842624 : Int) → ∃ (x22 : Unit), ((a.2.1.3 = a.1.2.3 ∧ a.3.3 = a.1.1.3) ∧ ∀ (x23 : List Int), Sli (Value.int IntKind.i64) (1 : Nat) a.3.1 a.3.2 a.3.3 a.3.4 a.3.5 x23 →
inRt x23 ∧ ¬rightP (sumC x23)) ∧ (True ∧ (22 : Int) = (22 : Int) ∧ True) ∧ True)) ∧ (¬(0 : Int) ≤ x11.1 → ∃ (x24 : Unit), ((a.2.1.3 = a.1.2.3 ∧ a.3.3 = a.1.1.3) ∧ ∀ (x25 : List
Int), Sli (Value.int IntKind.i64) (1 : Nat) a.3.1 a.3.2 a.3.3 a.3.4 a.3.5 x25 → inRt x25 ∧ ¬rightP (sumC x25)) ∧ (True ∧ (22 : Int) = (22 : Int) ∧ True) ∧ True)) ∧ True) ∧ (∀ (x26
: NK), ((0 : Int) ≤ x26.1 ∧ ∀ (x27 : List Int), Sli (Value.int IntKind.i64) (1 : Nat) a.3.1 a.3.2 a.3.3 a.3.4 a.3.5 x27 → ¬inRt x27) → ((0 : Int) ≤ x26.1 → ∃ (x28 : Unit),
((a.2.1.3 = a.1.2.3 ∧ a.3.3 = a.1.1.3) ∧ ∀ (x29 : List Int), Sli (Value.int IntKind.i64) (1 : Nat) a.3.1 a.3.2 a.3.3 a.3.4 a.3.5 x29 → ¬inRt x29) ∧ (True ∧ (2 : Int) = (2 : Int) ∧
True) ∧ True) ∧ (¬(0 : Int) ≤ x26.1 → (True ∧ (∃ (x30 : List Int), Sli (Value.int IntKind.i64) (1 : Nat) a.3.1 a.3.2 a.3.3 a.3.4 a.3.5 x30) ∧ a.3.3 ≤ (1000 : Nat)) ∧ (((a.3.1 =
a.3.1 ∧ a.3.2 = a.3.2 ∧ a.3.3 = a.3.3 ∧ a.3.4 = a.3.4) ∧ True) ∧ (True ∧ FlatL a.3.5 ∧ a.3.5 = a.3.5) ∧ True) ∧ (∀ (x31 : NK), (∀ (x32 : List Int), Sli (Value.int IntKind.i64) (1 :
Nat) a.3.1 a.3.2 a.3.3 a.3.4 a.3.5 x32 → x31.1 = sumC x32) → ((0 : Int) ≤ x31.1 → (x31.1 ≤ (1125899906842624 : Int) → (True ∧ (∃ (x33 : PX), PH a.2 x33) ∧ a.2.1.3 ≤ (1000 : Nat) ∧
a.2.2.3 ≤ (1000 : Nat) ∧ a.2.3.3 ≤ (1000 : Nat)) ∧ ((((a.2.1.1 = a.2.1.1 ∧ a.2.1.2 = a.2.1.2 ∧ a.2.1.3 = a.2.1.3 ∧ a.2.1.4 = a.2.1.4) ∧ (a.2.2.1 = a.2.2.1 ∧ a.2.2.2 = a.2.2.2 ∧
a.2.2.3 = a.2.2.3 ∧ a.2.2.4 = a.2.2.4) ∧ (a.2.3.1 = a.2.3.1 ∧ a.2.3.2 = a.2.3.2 ∧ a.2.3.3 = a.2.3.3 ∧ a.2.3.4 = a.2.3.4) ∧ a.2.4 = a.2.4 ∧ a.2.5 = a.2.5 ∧ a.2.6 = a.2.6 ∧ a.2.7 =
a.2.7 ∧ a.2.8 = a.2.8 ∧ True) ∧ True) ∧ (True ∧ FlatL a.2.1.5 ∧ a.2.1.5 = a.2.1.5) ∧ (True ∧ FlatL a.2.2.5 ∧ a.2.2.5 = a.2.2.5) ∧ (True ∧ FlatL a.2.3.5 ∧ a.2.3.5 = a.2.3.5) ∧ True)
∧ (∀ (x34 : PB), (∀ (x35 : PX), PH a.2 x35 → PH (PA.mk (SA.mk a.2.1.1 (0 : Nat) a.2.1.3 x34.1.1 x34.1.2) (SA.mk a.2.2.1 (0 : Nat) a.2.2.3 x34.2.1 x34.2.2) (SA.mk a.2.3.1 (0 : Nat)
a.2.3.3 x34.3.1 x34.3.2) a.2.4 a.2.5 a.2.6 a.2.7 a.2.8) x35) → (True ∧ (∃ (x36 : List Int), Sli (Value.int IntKind.i64) (1 : Nat) a.3.1 a.3.2 a.3.3 a.3.4 a.3.5 x36) ∧ a.3.3 ≤ (1000
: Nat)) ∧ (((a.3.1 = a.3.1 ∧ a.3.2 = a.3.2 ∧ a.3.3 = a.3.3 ∧ a.3.4 = a.3.4) ∧ True) ∧ (True ∧ FlatL a.3.5 ∧ a.3.5 = a.3.5) ∧ True) ∧ (∀ (x37 : RW), (∀ (x38 : List Int), Sli
(Value.int IntKind.i64) (1 : Nat) a.3.1 a.3.2 a.3.3 a.3.4 a.3.5 x38 → Sli (Value.int IntKind.i64) (1 : Nat) a.3.1 (0 : Nat) a.3.3 x37.1 x37.2 x38) → ((True ∧ True ∧ True) ∧ (True ∧
True ∧ True) ∧ (True ∧ True ∧ True) ∧ (W_G_new_2 a = W_G_new_2 a ∧ W_G_new_2 a = W_G_new_2 a ∧ True) ∧ True ∧ True ∧ True ∧ True ∧ True ∧ (True ∧ True) ∧ (True ∧ True) ∧ (True ∧
True) ∧ (W_G_new_2 a = W_G_new_2 a ∧ True) ∧ True ∧ True ∧ True ∧ True) ∧ ∃ (x39 : NwO), ((a.2.1.3 = a.1.2.3 ∧ a.3.3 = a.1.1.3) ∧ (∀ (x40 : List Int), Sli (Value.int IntKind.i64)
(1 : Nat) a.3.1 a.3.2 a.3.3 a.3.4 a.3.5 x40 → (inRt x40 ∧ rightP (sumC x40)) ∧ Sli (Value.int IntKind.i64) (1 : Nat) a.3.1 (0 : Nat) a.3.3 x39.2.1 x39.2.2 x40) ∧ ∀ (x41 : PX), PH
a.2 x41 → PH (PA.mk (SA.mk a.2.1.1 (0 : Nat) a.2.1.3 x39.1.1.1 x39.1.1.2) (SA.mk a.2.2.1 (0 : Nat) a.2.2.3 x39.1.2.1 x39.1.2.2) (SA.mk a.2.3.1 (0 : Nat) a.2.3.3 x39.1.3.1
x39.1.3.2) a.2.4 a.2.5 a.2.6 a.2.7 a.2.8) x41) ∧ ((0 : Nat) = (0 : Nat) ∧ (0 : Int) = (0 : Int) ∧ True) ∧ (True ∧ ((0 : Nat) = (0 : Nat) ∧ (1 : Nat) = (1 : Nat) ∧ (1 : Nat) = (1 :
Nat)) ∧ True) ∧ (True ∧ (0 : Nat) = (0 : Nat) ∧ (a.2.1.1 = a.2.1.1 ∧ nat_lit 0 = (0 : Nat) ∧ a.2.1.3 = a.2.1.3 ∧ x39.1.1.1 = x34.1.1) ∧ (a.2.2.1 = a.2.2.1 ∧ nat_lit 0 = (0 : Nat) ∧
a.2.2.3 = a.2.2.3 ∧ x39.1.2.1 = x34.2.1) ∧ (a.2.3.1 = a.2.3.1 ∧ nat_lit 0 = (0 : Nat) ∧ a.2.3.3 = a.2.3.3 ∧ x39.1.3.1 = x34.3.1) ∧ a.2.4 = a.2.4 ∧ a.2.5 = a.2.5 ∧ a.2.6 = a.2.6 ∧
a.2.7 = a.2.7 ∧ a.2.8 = a.2.8 ∧ (a.3.1 = a.3.1 ∧ nat_lit 0 = (0 : Nat) ∧ a.3.3 = a.3.3 ∧ x39.2.1 = x37.1) ∧ True) ∧ (x39.1.1.1 = x34.1.1 ∧ FlatL x39.1.1.2 ∧ x39.1.1.2 = x34.1.2) ∧
(x39.1.2.1 = x34.2.1 ∧ FlatL x39.1.2.2 ∧ x39.1.2.2 = x34.2.2) ∧ (x39.1.3.1 = x34.3.1 ∧ FlatL x39.1.3.2 ∧ x39.1.3.2 = x34.3.2) ∧ (x39.2.1 = x37.1 ∧ FlatL x39.2.2 ∧ x39.2.2 = x37.2)
∧ True) ∧ True) ∧ True) ∧ (¬x31.1 ≤ (1125899906842624 : Int) → ∃ (x42 : Unit), ((a.2.1.3 = a.1.2.3 ∧ a.3.3 = a.1.1.3) ∧ ∀ (x43 : List Int), Sli (Value.int IntKind.i64) (1 : Nat)
a.3.1 a.3.2 a.3.3 a.3.4 a.3.5 x43 → inRt x43 ∧ ¬rightP (sumC x43)) ∧ (True ∧ (22 : Int) = (22 : Int) ∧ True) ∧ True)) ∧ (¬(0 : Int) ≤ x31.1 → ∃ (x44 : Unit), ((a.2.1.3 = a.1.2.3 ∧
a.3.3 = a.1.1.3) ∧ ∀ (x45 : List Int), Sli (Value.int IntKind.i64) (1 : Nat) a.3.1 a.3.2 a.3.3 a.3.4 a.3.5 x45 → inRt x45 ∧ ¬rightP (sumC x45)) ∧ (True ∧ (22 : Int) = (22 : Int) ∧
True) ∧ True)) ∧ True)) ∧ True) ∧ (¬x5 = (↑a.1.1.3 : Int) → ((W_G_new_0 a = W_G_new_0 a ∧ True) ∧ (W_G_new_1 a = W_G_new_1 a ∧ True) ∧ True ∧ True ∧ True ∧ True ∧ True ∧ True) ∧ ∃
(x46 : Unit), (a.2.1.3 = a.1.2.3 ∧ a.3.3 = a.1.1.3 → False) ∧ (True ∧ (3 : Int) = (3 : Int) ∧ True) ∧ True)) ∧ True) ∧ (∀ (x47 : Unit), (a.2.1.3 = a.1.2.3 ∧ a.2.2.3 = a.1.1.3 ∧
a.2.3.3 = a.1.1.3 → False) → ∃ (x48 : Unit), (a.2.1.3 = a.1.2.3 ∧ a.3.3 = a.1.1.3 → False) ∧ (True ∧ (3 : Int) = (3 : Int) ∧ True) ∧ True) ∧ (∀ (x49 : Unit), ((a.2.1.3 = a.1.2.3 ∧
a.2.2.3 = a.1.1.3 ∧ a.2.3.3 = a.1.1.3) ∧ ∀ (x50 : PX) (x51 : List Int), PH a.2 x50 → Sli (Value.int IntKind.i32) (2 : Nat) a.1.2.1 a.1.2.2 a.1.2.3 a.1.2.4 a.1.2.5 x51 → ¬(inAll x51
x50.1 a.2.1.3 ∧ (rollZ a.2 ∨ rollOK a.1.2.3 a.1.1.3 a.2 x50))) → ∃ (x52 : Unit), ((a.2.1.3 = a.1.2.3 ∧ a.3.3 = a.1.1.3) ∧ ∀ (x53 : List Int), Sli (Value.int IntKind.i64) (1 : Nat)
a.3.1 a.3.2 a.3.3 a.3.4 a.3.5 x53 → ¬inRt x53) ∧ (True ∧ (2 : Int) = (2 : Int) ∧ True) ∧ True) ∧ True) := by kernel_rfl
set_option maxHeartbeats 1600000 in
theorem g_new (a : NwA) (hg : rlF a.g) (hk : okNw a) (hl : a.p.s1.l ≤ 1000 ∧ a.p.s2.l ≤ 1000 ∧ a.p.s3.l ≤ 1000) (hs : ∃ xs, Sli (Value.int .i64) 1 a.s.n a.s.o a.s.l a.s.k a.s.c xs) (hm : a.s.l ≤ 1000) : GW (G_new a) := by
  have hg0 := hg
  obtain ⟨g1, g2⟩ := hg
  obtain ⟨x, cs, hx, hc, hin, hz, hl2, hl3⟩ := hk
  have hs0 := hs
  obtain ⟨xs, h⟩ := hs
  have f1 := hx.p1.flat
  have f2 := hx.p2.flat
  have f3 := hx.p3.flat
  have f4 := h.flat
  have all : ∀ {P : List Int → Prop}, P xs → ∀ ys, Sli (Value.int .i64) 1 a.s.n a.s.o a.s.l a.s.k a.s.c ys → P ys := fun hp ys hy => by rw [Sli.uniqI hy h]; exact hp
  refine ⟨?_⟩
  rw [vc_new]
  refine ⟨⟨trivial, hg0, ⟨x, hx⟩, ⟨cs, hc⟩, hl.1⟩, by (repeat' first | with_reducible apply And.intro | exact trivial | with_reducible assumption | with_reducible rfl | exact rfl), fun _ hok => ?_, fun _ hno => ?_, fun _ hbad => ?_, ?_⟩
  · obtain ⟨⟨q1, q2, q3⟩, -⟩ := hok
    intro x5 e5
    refine ⟨⟨trivial, g1, g2⟩, by (repeat' first | with_reducible apply And.intro | exact trivial | with_reducible assumption | with_reducible rfl | exact rfl), fun _ _ => ⟨fun e => ?_, fun e => ?_⟩, trivial⟩
    · have hsl : a.s.l = a.g.st.l := by have : (a.s.l : Int) = (a.g.st.l : Int) := e5.symm.trans e; omega
      refine ⟨by (repeat' first | with_reducible apply And.intro | exact trivial | with_reducible assumption | with_reducible rfl | exact rfl), ⟨trivial, hs0, hm⟩, by (repeat' first | with_reducible apply And.intro | exact trivial | with_reducible assumption | with_reducible rfl | exact rfl), fun _ hi => ?_, fun y hy => ?_, trivial⟩
      · have hi := hi _ h
        refine ⟨⟨trivial, hs0, hm⟩, by (repeat' first | with_reducible apply And.intro | exact trivial | with_reducible assumption | with_reducible rfl | exact rfl), fun y hy => ?_, trivial⟩
        have hy := hy _ h
        refine ⟨fun b0 => ⟨fun b1 => ?_, fun b1 => ?_⟩, fun b0 => ?_⟩
        · refine ⟨⟨trivial, ⟨x, hx⟩, hl⟩, by (repeat' first | with_reducible apply And.intro | exact trivial | with_reducible assumption | with_reducible rfl | exact rfl), fun y1 hy1 => ⟨⟨trivial, hs0, hm⟩, by (repeat' first | with_reducible apply And.intro | exact trivial | with_reducible assumption | with_reducible rfl | exact rfl), fun y2 hy2 => ?_, trivial⟩, trivial⟩
          have k1 := (hy1 _ hx).p1.flat
          have k2 := (hy1 _ hx).p2.flat
          have k3 := (hy1 _ hx).p3.flat
          have k4 := (hy2 _ h).flat
          refine ⟨by (repeat' first | with_reducible apply And.intro | exact trivial | with_reducible assumption | with_reducible rfl | exact rfl), ⟨y1, y2⟩, ⟨⟨q1, hsl⟩, fun ys hys => ⟨?_, hy2 _ hys⟩, fun z hz => hy1 _ hz⟩, ?_⟩
          · rw [Sli.uniqI hys h]; exact ⟨hi, by rw [← hy]; exact ⟨b0, b1⟩⟩
          · (repeat' first | with_reducible apply And.intro | exact trivial | with_reducible assumption | with_reducible rfl | exact rfl)
        · exact ⟨(), ⟨⟨q1, hsl⟩, all ⟨hi, fun r => b1 (by rw [hy]; exact r.2)⟩⟩, by (repeat' first | with_reducible apply And.intro | exact trivial | with_reducible assumption | with_reducible rfl | exact rfl), trivial⟩
        · exact ⟨(), ⟨⟨q1, hsl⟩, all ⟨hi, fun r => b0 (by rw [hy]; exact r.1)⟩⟩, by (repeat' first | with_reducible apply And.intro | exact trivial | with_reducible assumption | with_reducible rfl | exact rfl), trivial⟩
      · obtain ⟨b0, hy⟩ := hy
        have hy := hy _ h
        exact ⟨fun _ => ⟨(), ⟨⟨q1, hsl⟩, all hy⟩, by (repeat' first | with_reducible apply And.intro | exact trivial | with_reducible assumption | with_reducible rfl | exact rfl), trivial⟩, fun n => absurd b0 n⟩
    · exact ⟨by (repeat' first | with_reducible apply And.intro | exact trivial | with_reducible assumption | with_reducible rfl | exact rfl), (), fun r => e (by rw [e5, r.2]), by (repeat' first | with_reducible apply And.intro | exact trivial | with_reducible assumption | with_reducible rfl | exact rfl), trivial⟩
  · exact ⟨(), fun r => hno ⟨r.1, hl2, hl3⟩, by (repeat' first | with_reducible apply And.intro | exact trivial | with_reducible assumption | with_reducible rfl | exact rfl), trivial⟩
  · exact (hbad.2 _ _ hx hc ⟨hin hbad.1.1, .inl hz⟩).elim
  · trivial
theorem s_new : SpecOK Tryz.prog S_new.spec := fun a => specG_at (an := []) envOK (cwX_ok (fun _ h => cwD_ok s_checkR (cwD_ok s_seatsR (cwD_ok s_idx (cwD_ok s_sum (cwD_ok s_clone (cwD_ok s_clint h)))))) 6) fun hp => g_new a hp.1 hp.2.1 hp.2.2.1 hp.2.2.2.1 hp.2.2.2.2
end Go.Proofs.YthcldogebnjohaaGreatDoor
end

/- Whether positions, amounts are the same: slices.Equal, game.Same, the law's same (what is to be shown). -/
section
set_option maxRecDepth 100000
namespace Go.Proofs.YthcldogebnjohaaGreatDoor
open Go.Ev
-- keep Go.Ev.Sli PH
structure P2G where
  a : PA
  b : PA
structure RollsEq (a b : PA) : Prop where
  r0 : a.r0 = b.r0
  r1 : a.r1 = b.r1
  r2 : a.r2 = b.r2
  r3 : a.r3 = b.r3
  r4 : a.r4 = b.r4
set_option linter.unusedSectionVars false
variable [Go.Ev.Frozen Tryz.prog]
noncomputable section
def eqPick (v : Value) : Nat := match v with
  | .bool true => 0
  | _ => 1
def S_eqlsame : SpecD where
  f := 20
  α := S2
  args a := [a.a.v 12, a.b.v (12 + 1)]
  R a := [(12, .f a.a.c 3 .gro), (12 + 1, .f a.b.c 3 .gro)]
  n := 12 + 2
  pre a := (∃ xs ys, Sli (Value.int .i64) 1 a.a.n a.a.o a.a.l a.a.k a.a.c xs ∧ Sli (Value.int .i64) 1 a.b.n a.b.o a.b.l a.b.k a.b.c ys) ∧ (a.a.l ≤ 1000000 ∧ a.b.l ≤ 1000000)
  outs := [⟨Unit, fun a _ => ∀ xs ys, Sli (Value.int .i64) 1 a.a.n a.a.o a.a.l a.a.k a.a.c xs → Sli (Value.int .i64) 1 a.b.n a.b.o a.b.l a.b.k a.b.c ys → xs = ys, fun _ _ => .bool true, fun _ _ => [], fun _ _ => 12 + 2, fun _ _ => []⟩,
    ⟨Unit, fun a _ => ∀ xs ys, Sli (Value.int .i64) 1 a.a.n a.a.o a.a.l a.a.k a.a.c xs → Sli (Value.int .i64) 1 a.b.n a.b.o a.b.l a.b.k a.b.c ys → xs ≠ ys, fun _ _ => .bool false, fun _ _ => [], fun _ _ => 12 + 2, fun _ _ => []⟩]
  pick v _ := eqPick v
  find l A := saK A 12 (lv l 0) fun a r => saK A (12 + 1) (lv l 1) fun b q => some (⟨a, b⟩, r ++ q)
def S_eqi32 : SpecD where
  f := 67
  α := S2
  args a := [a.a.v 12, a.b.v (12 + 1)]
  R a := [(12, .f a.a.c 21 .gro), (12 + 1, .f a.b.c 21 .gro)]
  n := 12 + 2
  pre a := (∃ xs ys, Sli (Value.int .i32) 1 a.a.n a.a.o a.a.l a.a.k a.a.c xs ∧ Sli (Value.int .i32) 1 a.b.n a.b.o a.b.l a.b.k a.b.c ys) ∧ (a.a.l ≤ 1000000 ∧ a.b.l ≤ 1000000)
  outs := [⟨Unit, fun a _ => ∀ xs ys, Sli (Value.int .i32) 1 a.a.n a.a.o a.a.l a.a.k a.a.c xs → Sli (Value.int .i32) 1 a.b.n a.b.o a.b.l a.b.k a.b.c ys → xs = ys, fun _ _ => .bool true, fun _ _ => [], fun _ _ => 12 + 2, fun _ _ => []⟩,
    ⟨Unit, fun a _ => ∀ xs ys, Sli (Value.int .i32) 1 a.a.n a.a.o a.a.l a.a.k a.a.c xs → Sli (Value.int .i32) 1 a.b.n a.b.o a.b.l a.b.k a.b.c ys → xs ≠ ys, fun _ _ => .bool false, fun _ _ => [], fun _ _ => 12 + 2, fun _ _ => []⟩]
  pick v _ := eqPick v
  find l A := saK A 12 (lv l 0) fun a r => saK A (12 + 1) (lv l 1) fun b q => some (⟨a, b⟩, r ++ q)
def S_eqbool : SpecD where
  f := 68
  α := S2
  args a := [a.a.v 12, a.b.v (12 + 1)]
  R a := [(12, .f a.a.c 4 .gro), (12 + 1, .f a.b.c 4 .gro)]
  n := 12 + 2
  pre a := (∃ xs ys, Sli (Value.bool) 1 a.a.n a.a.o a.a.l a.a.k a.a.c xs ∧ Sli (Value.bool) 1 a.b.n a.b.o a.b.l a.b.k a.b.c ys) ∧ (a.a.l ≤ 1000000 ∧ a.b.l ≤ 1000000)
  outs := [⟨Unit, fun a _ => ∀ xs ys, Sli (Value.bool) 1 a.a.n a.a.o a.a.l a.a.k a.a.c xs → Sli (Value.bool) 1 a.b.n a.b.o a.b.l a.b.k a.b.c ys → xs = ys, fun _ _ => .bool true, fun _ _ => [], fun _ _ => 12 + 2, fun _ _ => []⟩,
    ⟨Unit, fun a _ => ∀ xs ys, Sli (Value.bool) 1 a.a.n a.a.o a.a.l a.a.k a.a.c xs → Sli (Value.bool) 1 a.b.n a.b.o a.b.l a.b.k a.b.c ys → xs ≠ ys, fun _ _ => .bool false, fun _ _ => [], fun _ _ => 12 + 2, fun _ _ => []⟩]
  pick v _ := eqPick v
  find l A := saK A 12 (lv l 0) fun a r => saK A (12 + 1) (lv l 1) fun b q => some (⟨a, b⟩, r ++ q)
def S_eqdig : SpecD where
  f := 69
  α := S2
  args a := [a.a.v 12, a.b.v (12 + 1)]
  R a := [(12, .f a.a.c 41 .gro), (12 + 1, .f a.b.c 41 .gro)]
  n := 12 + 2
  pre a := (∃ xs ys, Sli (Value.int .u8) 8 a.a.n a.a.o a.a.l a.a.k a.a.c xs ∧ Sli (Value.int .u8) 8 a.b.n a.b.o a.b.l a.b.k a.b.c ys) ∧ (a.a.l ≤ 1000000 ∧ a.b.l ≤ 1000000)
  outs := [⟨Unit, fun a _ => ∀ xs ys, Sli (Value.int .u8) 8 a.a.n a.a.o a.a.l a.a.k a.a.c xs → Sli (Value.int .u8) 8 a.b.n a.b.o a.b.l a.b.k a.b.c ys → xs = ys, fun _ _ => .bool true, fun _ _ => [], fun _ _ => 12 + 2, fun _ _ => []⟩,
    ⟨Unit, fun a _ => ∀ xs ys, Sli (Value.int .u8) 8 a.a.n a.a.o a.a.l a.a.k a.a.c xs → Sli (Value.int .u8) 8 a.b.n a.b.o a.b.l a.b.k a.b.c ys → xs ≠ ys, fun _ _ => .bool false, fun _ _ => [], fun _ _ => 12 + 2, fun _ _ => []⟩]
  pick v _ := eqPick v
  find l A := saK A 12 (lv l 0) fun a r => saK A (12 + 1) (lv l 1) fun b q => some (⟨a, b⟩, r ++ q)
def la_eqlsame (a : S2) (xs ys : List Int) : LA where
  α := IL
  at_ e := ⟨[(0, a.a.v 12), (1, a.b.v (12 + 1)), (12, a.a.v 12), (13, tgI .i64 a.a.l), (14, tgI .i64 e.i)], S_eqlsame.R a, 12 + 2⟩
  J e := (0 ≤ e.i ∧ e.i ≤ a.a.l) ∧ xs.take (1 * e.i.toNat) = ys.take (1 * e.i.toNat)
  μ e := (a.a.l - e.i).toNat
  ren _ := []
def G_eqlsame (a : S2) (xs ys : List Int) : Prop := fnW Tryz.prog E0 cw0 [some (la_eqlsame a xs ys)] S_eqlsame.f (S_eqlsame.args a) (mem (S_eqlsame.R a) S_eqlsame.n) (endD Tryz.prog S_eqlsame a)
def la_eqi32 (a : S2) (xs ys : List Int) : LA where
  α := IL
  at_ e := ⟨[(0, a.a.v 12), (1, a.b.v (12 + 1)), (12, tgI .i64 a.a.l), (13, tgI .i64 e.i)], S_eqi32.R a, 12 + 2⟩
  J e := (0 ≤ e.i ∧ e.i ≤ a.a.l) ∧ xs.take (1 * e.i.toNat) = ys.take (1 * e.i.toNat)
  μ e := (a.a.l - e.i).toNat
  ren _ := []
def G_eqi32 (a : S2) (xs ys : List Int) : Prop := fnW Tryz.prog E0 cw0 [some (la_eqi32 a xs ys)] S_eqi32.f (S_eqi32.args a) (mem (S_eqi32.R a) S_eqi32.n) (endD Tryz.prog S_eqi32 a)
def la_eqbool (a : S2) (xs ys : List Bool) : LA where
  α := IL
  at_ e := ⟨[(0, a.a.v 12), (1, a.b.v (12 + 1)), (12, tgI .i64 a.a.l), (13, tgI .i64 e.i)], S_eqbool.R a, 12 + 2⟩
  J e := (0 ≤ e.i ∧ e.i ≤ a.a.l) ∧ xs.take (1 * e.i.toNat) = ys.take (1 * e.i.toNat)
  μ e := (a.a.l - e.i).toNat
  ren _ := []
def G_eqbool (a : S2) (xs ys : List Bool) : Prop := fnW Tryz.prog E0 cw0 [some (la_eqbool a xs ys)] S_eqbool.f (S_eqbool.args a) (mem (S_eqbool.R a) S_eqbool.n) (endD Tryz.prog S_eqbool a)
def la_eqdig (a : S2) (xs ys : List Int) : LA where
  α := IL
  at_ e := ⟨[(0, a.a.v 12), (1, a.b.v (12 + 1)), (12, tgI .i64 a.a.l), (13, tgI .i64 e.i)], S_eqdig.R a, 12 + 2⟩
  J e := (0 ≤ e.i ∧ e.i ≤ a.a.l) ∧ xs.take (8 * e.i.toNat) = ys.take (8 * e.i.toNat)
  μ e := (a.a.l - e.i).toNat
  ren _ := []
def G_eqdig (a : S2) (xs ys : List Int) : Prop := fnW Tryz.prog E0 cw0 [some (la_eqdig a xs ys)] S_eqdig.f (S_eqdig.args a) (mem (S_eqdig.R a) S_eqdig.n) (endD Tryz.prog S_eqdig a)
def S_gsame : SpecD where
  f := 21
  α := P2G
  args a := [a.a.v 12, a.b.v (12 + 3)]
  R a := a.a.R 12 41 ++ a.b.R (12 + 3) 41
  n := 12 + 6
  pre a := ((∃ x, PH a.a x) ∧ ∃ x, PH a.b x) ∧ ((a.a.s1.l ≤ 1000 ∧ a.a.s2.l ≤ 1000 ∧ a.a.s3.l ≤ 1000) ∧ (a.b.s1.l ≤ 1000 ∧ a.b.s2.l ≤ 1000 ∧ a.b.s3.l ≤ 1000))
  outs := [⟨BL, fun a b => ∀ x y, PH a.a x → PH a.b y → (b.b = true ↔ x = y ∧ RollsEq a.a a.b), fun _ b => tg (.bool b.b), fun _ _ => [], fun _ _ => 12 + 6, fun _ _ => []⟩]
  pick _ _ := 0
  find l A := paK A 12 (agv (lv l 0)) fun a r => paK A (12 + 3) (agv (lv l 1)) fun b q => some ((⟨a, b⟩ : P2G), r ++ q)
def G_gsame (a : P2G) : Prop := fnW Tryz.prog E0 (cwD Tryz.prog S_eqi32 (cwD Tryz.prog S_eqbool (cwD Tryz.prog S_eqdig cw0))) [] S_gsame.f (S_gsame.args a) (mem (S_gsame.R a) S_gsame.n) (endD Tryz.prog S_gsame a)
end
end Go.Proofs.YthcldogebnjohaaGreatDoor
end

/- Numbers read from bytes, in plain Lean: what the document's reader tells; numbers that are written are read. -/
section
namespace Go.Proofs.YthcldogebnjohaaGreatDoor
def lead : Nat → List Int → Nat
  | 0, _ => 0
  | _ + 1, [] => 0
  | n + 1, b :: l => if 128 ≤ b then lead n l + 1 else 0
def valN : List Int → Nat
  | [] => 0
  | b :: l => b.toNat % 128 + 128 * valN l
structure LR where
  n : Int
  k : Int
  e : Int
def lookN (bs : List Int) : LR :=
  if lead 10 bs = bs.length ∧ lead 10 bs < 10 then ⟨0, 0, 4⟩
  else if lead 10 bs = 10 ∨ (0 < lead 10 bs ∧ bs.getD (lead 10 bs) 0 = 0) ∨ (lead 10 bs = 9 ∧ 1 < bs.getD 9 0) then ⟨0, 0, 3⟩
  else ⟨valN (bs.take (lead 10 bs + 1)), lead 10 bs + 1, 0⟩
def Byts8 (bs : List Int) : Prop := ∀ b ∈ bs, 0 ≤ b ∧ b ≤ 255
set_option linter.unusedSectionVars false
variable [Go.Ev.Frozen Tryz.prog]
end Go.Proofs.YthcldogebnjohaaGreatDoor
end

/- Readers: what is told of look, number, Read, Num, Int and their like (what is to be shown). -/
section
set_option maxRecDepth 100000
namespace Go.Proofs.YthcldogebnjohaaGreatDoor
open Go.Ev
-- keep num foldI dnum frm Go.Ev.Sli lookN Byts8 valN lead rdC unfI OwB Go.Ev.HV
def unfI (n : Int) : Int := if n % 2 = 1 then -(n / 2) - 1 else n / 2
structure RR where
  at_ : Int
  e : Int
  n : Int
def rdC (bs : List Int) (at_ e m : Int) : RR :=
  if e ≠ 0 then ⟨at_, e, 0⟩
  else if (lookN (bs.drop at_.toNat)).e ≠ 0 then ⟨at_, (lookN (bs.drop at_.toNat)).e, 0⟩
  else if m < (lookN (bs.drop at_.toNat)).n then ⟨at_, 2, 0⟩
  else ⟨at_ + (lookN (bs.drop at_.toNat)).k, 0, (lookN (bs.drop at_.toNat)).n⟩
structure RA where
  s : SA
  at_ : Int
  e : Int
  m : Int
structure RI (a : RA) (xs : List Int) : Prop where
  sl : Sli (Value.int .u8) 1 a.s.n a.s.o a.s.l a.s.k a.s.c xs
  by_ : Byts8 xs
  at0 : 0 ≤ a.at_
  at1 : a.at_ ≤ a.s.l
  m0 : 0 ≤ a.m
  m1 : a.m < 18446744073709551616
set_option linter.unusedSectionVars false
variable [Go.Ev.Frozen Tryz.prog]
end Go.Proofs.YthcldogebnjohaaGreatDoor
end

/- Readers: what is told of look, number, Read, Num, Int and their like is so. -/
section
set_option maxRecDepth 100000
namespace Go.Proofs.YthcldogebnjohaaGreatDoor
open Go.Ev
set_option linter.unusedSectionVars false
variable [Go.Ev.Frozen Tryz.prog]
theorem RI.uniq {a : RA} {xs ys : List Int} (h : RI a xs) (g : RI a ys) : xs = ys := Sli.uniqI h.sl g.sl
theorem RI.len {a : RA} {xs : List Int} (h : RI a xs) : xs.length = a.s.l := by have := h.sl.len; omega
end Go.Proofs.YthcldogebnjohaaGreatDoor
end

/- Moves: what is told of their bytes, and of what is read (what is to be shown). -/
section
set_option maxRecDepth 100000
namespace Go.Proofs.YthcldogebnjohaaGreatDoor
open Go.Ev
-- keep num foldI dnum frm Go.Ev.Sli lookN Byts8 valN lead rdC wdC wsC decM endC unfI OwB Go.Ev.HV LC encM encMk encV MH RI q2C
structure WR where
  at_ : Int
  e : Int
  w : Int
def wdC (bs : List Int) (p e : Int) : WR := if (rdC bs p e 18446744073709551615).e = 0 ∧ (unfI (rdC bs p e 18446744073709551615).n < -2147483648 ∨ 2147483647 < unfI (rdC bs p e 18446744073709551615).n) then ⟨p, 2, 0⟩
  else ⟨(rdC bs p e 18446744073709551615).at_, (rdC bs p e 18446744073709551615).e, IntKind.wrap .i32 (unfI (rdC bs p e 18446744073709551615).n)⟩
structure LW where
  at_ : Int
  e : Int
  ws : List Int
def wsC (bs : List Int) : Nat → Int → Int → LW
  | 0, p, e => ⟨p, e, []⟩
  | n + 1, p, e => if e ≠ 0 then ⟨p, e, []⟩ else ⟨(wsC bs n (wdC bs p e).at_ (wdC bs p e).e).at_, (wsC bs n (wdC bs p e).at_ (wdC bs p e).e).e, (wdC bs p e).w :: (wsC bs n (wdC bs p e).at_ (wdC bs p e).e).ws⟩
def endC (bs : List Int) (p e : Int) : Int := if e = 0 ∧ p < bs.length then 5 else e
structure DM where
  e : Int
  t : Bool
  xs : List Int
  d : D8
def d80 : D8 := ⟨0, 0, 0, 0, 0, 0, 0, 0⟩
def decM (bs : List Int) : DM :=
  if (rdC bs 0 0 1).n = 1 then
    ⟨endC bs (rdC bs (rdC bs 0 0 1).at_ (rdC bs 0 0 1).e 18446744073709551615).at_ (rdC bs (rdC bs 0 0 1).at_ (rdC bs 0 0 1).e 18446744073709551615).e, true, [], frm (rdC bs (rdC bs 0 0 1).at_ (rdC bs 0 0 1).e 18446744073709551615).n⟩
  else
    ⟨endC bs (wsC bs (rdC bs (rdC bs 0 0 1).at_ (rdC bs 0 0 1).e 4).n.toNat (rdC bs (rdC bs 0 0 1).at_ (rdC bs 0 0 1).e 4).at_ (rdC bs (rdC bs 0 0 1).at_ (rdC bs 0 0 1).e 4).e).at_ (wsC bs (rdC bs (rdC bs 0 0 1).at_ (rdC bs 0 0 1).e 4).n.toNat (rdC bs (rdC bs 0 0 1).at_ (rdC bs 0 0 1).e 4).at_ (rdC bs (rdC bs 0 0 1).at_ (rdC bs 0 0 1).e 4).e).e, false,
      (wsC bs (rdC bs (rdC bs 0 0 1).at_ (rdC bs 0 0 1).e 4).n.toNat (rdC bs (rdC bs 0 0 1).at_ (rdC bs 0 0 1).e 4).at_ (rdC bs (rdC bs 0 0 1).at_ (rdC bs 0 0 1).e 4).e).ws, d80⟩
structure SN where
  n : Bool
  l : Nat
  k : Nat
  c : List Value
structure LC (s : SN) (ys : List Int) : Prop where
  he : HE .i32 s.c ys
  l : s.l = ys.length
  le : s.l ≤ s.k
  nil : s.n = true → ys = [] ∧ s.k = 0
structure MA where
  t : Bool
  s : SA
  d : D8
structure MH (a : MA) (xs : List Int) : Prop where
  sl : Sli (Value.int .i32) 1 a.s.n a.s.o a.s.l a.s.k a.s.c xs
  w : ∀ n ∈ xs, -2147483648 ≤ n ∧ n ≤ 2147483647
  d : a.d.Ok
def encM (t : Bool) (xs : List Int) (d : D8) : List Int := if t then num 1 ++ num (dnum d.l).toNat else num 0 ++ num xs.length ++ encV xs xs.length
def encMk (xs : List Int) (k : Nat) : List Int := num 0 ++ num xs.length ++ encV xs k
set_option linter.unusedSectionVars false
variable [Go.Ev.Frozen Tryz.prog]
noncomputable section
abbrev SN.v (s : SN) (i : Nat) : Value := mnS i s.n 0 s.l s.k
abbrev D8.c (d : D8) : List Value := [tgI .u8 d.d0, tgI .u8 d.d1, tgI .u8 d.d2, tgI .u8 d.d3, tgI .u8 d.d4, tgI .u8 d.d5, tgI .u8 d.d6, tgI .u8 d.d7]
abbrev MA.c (a : MA) (i : Nat) : List Value := tg (.bool a.t) :: a.s.v i :: a.d.c
abbrev MA.v (a : MA) (i : Nat) : Value := .agg ⟨a.c i⟩
abbrev MA.R (a : MA) (i : Nat) : List (Nat × PO) := [(i, .f a.s.c 21 .gro)]
def q2C (bs : List Int) : RR := rdC bs (rdC bs 0 0 1).at_ (rdC bs 0 0 1).e 4
end
end Go.Proofs.YthcldogebnjohaaGreatDoor
end

/- Moves: what is told of their bytes, and of what is read, is so. -/
section
set_option maxRecDepth 100000
namespace Go.Proofs.YthcldogebnjohaaGreatDoor
open Go.Ev
set_option linter.unusedSectionVars false
variable [Go.Ev.Frozen Tryz.prog]
theorem RI.with {a : RA} {xs : List Int} (h : RI a xs) {p e m : Int} (h0 : 0 ≤ p) (h1 : p ≤ a.s.l) (m0 : 0 ≤ m) (m1 : m < 18446744073709551616) : RI ⟨a.s, p, e, m⟩ xs := ⟨h.sl, h.by_, h0, h1, m0, m1⟩
theorem LC.none : LC ⟨true, 0, 0, []⟩ [] := ⟨.nil, rfl, Nat.le_refl _, fun _ => ⟨rfl, rfl⟩⟩
theorem LC.one (x : Int) : LC ⟨false, 1, 1, [tgI .i32 x]⟩ [x] := ⟨.one, rfl, Nat.le_refl _, fun h => by cases h⟩
theorem LC.snoc {s : SN} {ys : List Int} (h : LC s ys) (x : Int) {n k : Nat} (hn : n = s.l + 1) (hk : k = if n ≤ s.k then s.k else n) : LC ⟨false, n, k, s.c ++ [tgI .i32 x]⟩ (ys ++ [x]) :=
  ⟨h.he.snoc, by have := h.l; simp; omega, by show n ≤ k; rw [hk]; split <;> omega, fun h => by cases h⟩
theorem LC.flat {s : SN} {ys : List Int} (h : LC s ys) : FlatL s.c := h.he.flat
theorem MH.uniq {a : MA} {xs ys : List Int} (h : MH a xs) (g : MH a ys) : xs = ys := Sli.uniqI h.sl g.sl
theorem HW.lit (k : IntKind) (z : Int) : HE k [Value.int k z] [z] := ⟨rfl, fun i x h => by
  cases i with
  | zero => cases h; exact .inl rfl
  | succ i => simp at h⟩
end Go.Proofs.YthcldogebnjohaaGreatDoor
end
