/- The law of what can't be begun, where a stack is begun, is so. -/
import Derived.Test.YthcldogebnjohaaGreatDoorYnp
set_option maxRecDepth 100000
set_option linter.constructorNameAsVariable false
namespace Go.Proofs.YthcldogebnjohaaGreatDoor
open Go.Ev
set_option linter.unusedSectionVars false
variable [Go.Ev.Frozen Tryz.prog]
noncomputable section
def W_G_noneA_0 : NnA → NnQ → Option AO := fun (a : NnA) (x50 : NnQ) => Option.some (AO.row ([Value.pointer (Option.some (Addr.mk (13 : Nat) (0 : Nat) Option.none)), Value.iface (1000000009 : Nat) (Value.agg (Array.mk
[Value.bool Bool.false, Value.slice (Option.some (Addr.mk (22 : Nat) (nat_lit 0) Option.none)) (nat_lit 2) x50.2.1.1.1])), Value.iface (1000000009 : Nat) (Value.agg (Array.mk
[Value.bool Bool.false, Value.slice (Option.some (Addr.mk (23 : Nat) (nat_lit 0) Option.none)) (nat_lit 2) x50.2.1.2.1])), Value.iface (1000000009 : Nat) (Value.agg (Array.mk
[Value.bool Bool.false, Value.slice (Option.some (Addr.mk (24 : Nat) (nat_lit 0) Option.none)) (nat_lit 2) x50.2.1.3.1])), Value.iface (1000000007 : Nat) (Value.int IntKind.i64
(Int.ofNat (0 : Nat))), Value.iface (1000000007 : Nat) (Value.int IntKind.i64 (Int.ofNat (0 : Nat))), Value.iface (1000000007 : Nat) (Value.int IntKind.i64 (Int.ofNat (0 : Nat))),
Value.iface (1000000007 : Nat) (Value.int IntKind.i64 (Int.ofNat (0 : Nat))), Value.iface (1000000007 : Nat) (Value.int IntKind.u64 (Int.ofNat (0 : Nat)))] ++ [Value.iface
(1000000009 : Nat) (Value.agg (Array.mk [Value.bool a.2.1, Value.slice (Option.some (Addr.mk (25 : Nat) (nat_lit 0) Option.none)) a.2.3 x50.2.2.1]))]) (76 : Nat) Md.own)
def W_G_noneA_1 : NnA → PB → RW → Option AO := fun (a : NnA) (x55 : PB) (x58 : RW) => Option.some (AO.row [Value.pointer (Option.some (Addr.mk (13 : Nat) (0 : Nat) Option.none)), Value.iface (1000000009 : Nat) (Value.agg
(Array.mk [Value.bool Bool.false, Value.slice (Option.some (Addr.mk (Nat.add (Nat.succ (Nat.succ (Nat.succ (Nat.succ (Nat.succ (Nat.succ (Nat.succ (Nat.succ (Nat.succ (Nat.succ
(Nat.succ (Nat.succ (Nat.succ (Nat.succ (Nat.succ (Nat.succ (Nat.add ((12 : Nat) + (18 : Nat)) (Nat.sub ((12 : Nat) + (7 : Nat)) (19 : Nat))))))))))))))))))) (0 : Nat)) (0 : Nat)
Option.none)) (nat_lit 2) x55.1.1])), Value.iface (1000000009 : Nat) (Value.agg (Array.mk [Value.bool Bool.false, Value.slice (Option.some (Addr.mk (Nat.add (Nat.succ (Nat.succ
(Nat.succ (Nat.succ (Nat.succ (Nat.succ (Nat.succ (Nat.succ (Nat.succ (Nat.succ (Nat.succ (Nat.succ (Nat.succ (Nat.succ (Nat.succ (Nat.succ (Nat.add ((12 : Nat) + (18 : Nat))
(Nat.sub ((12 : Nat) + (7 : Nat)) (19 : Nat))))))))))))))))))) (1 : Nat)) (0 : Nat) Option.none)) (nat_lit 2) x55.2.1])), Value.iface (1000000009 : Nat) (Value.agg (Array.mk
[Value.bool Bool.false, Value.slice (Option.some (Addr.mk (Nat.add (Nat.succ (Nat.succ (Nat.succ (Nat.succ (Nat.succ (Nat.succ (Nat.succ (Nat.succ (Nat.succ (Nat.succ (Nat.succ
(Nat.succ (Nat.succ (Nat.succ (Nat.succ (Nat.succ (Nat.add ((12 : Nat) + (18 : Nat)) (Nat.sub ((12 : Nat) + (7 : Nat)) (19 : Nat))))))))))))))))))) (2 : Nat)) (0 : Nat)
Option.none)) (nat_lit 2) x55.3.1])), Value.iface (1000000007 : Nat) (Value.int IntKind.i64 (Int.ofNat (0 : Nat))), Value.iface (1000000007 : Nat) (Value.int IntKind.i64 (Int.ofNat
(0 : Nat))), Value.iface (1000000007 : Nat) (Value.int IntKind.i64 (Int.ofNat (0 : Nat))), Value.iface (1000000007 : Nat) (Value.int IntKind.i64 (Int.ofNat (0 : Nat))), Value.iface
(1000000007 : Nat) (Value.int IntKind.u64 (Int.ofNat (0 : Nat))), Value.iface (1000000009 : Nat) (Value.agg (Array.mk [Value.bool a.2.1, Value.slice (Option.some (Addr.mk (Nat.add
(Nat.add (Nat.succ (Nat.succ (Nat.succ (Nat.succ (Nat.succ (Nat.succ (Nat.succ (Nat.succ (Nat.succ (Nat.succ (Nat.succ (Nat.succ (Nat.succ (Nat.succ (Nat.succ (Nat.succ (Nat.add
((12 : Nat) + (18 : Nat)) (Nat.sub ((12 : Nat) + (7 : Nat)) (19 : Nat))))))))))))))))))) (Nat.sub ((12 : Nat) + (6 : Nat)) (15 : Nat))) (0 : Nat)) (0 : Nat) Option.none)) a.2.3
x58.1]))] (76 : Nat) Md.own)
def W_G_noneA_2 : NnA → PB → RW → Option AO := fun (a : NnA) (x71 : PB) (x74 : RW) => Option.some (AO.row [Value.pointer (Option.some (Addr.mk (13 : Nat) (0 : Nat) Option.none)), Value.iface (1000000009 : Nat) (Value.agg
(Array.mk [Value.bool Bool.false, Value.slice (Option.some (Addr.mk (Nat.add (Nat.succ (Nat.succ (Nat.succ (Nat.succ (Nat.succ (Nat.add (Nat.add (Nat.succ (Nat.succ (Nat.succ
(Nat.succ (Nat.succ (Nat.succ (Nat.succ (Nat.succ (Nat.succ (Nat.succ (Nat.succ (Nat.succ (Nat.succ (Nat.succ (Nat.succ (Nat.succ (Nat.add ((12 : Nat) + (18 : Nat)) (Nat.sub ((12 :
Nat) + (7 : Nat)) (19 : Nat))))))))))))))))))) (Nat.sub ((12 : Nat) + (6 : Nat)) (15 : Nat))) (Nat.sub ((12 : Nat) + (2 : Nat)) (13 : Nat)))))))) (0 : Nat)) (0 : Nat) Option.none))
(nat_lit 2) x71.1.1])), Value.iface (1000000009 : Nat) (Value.agg (Array.mk [Value.bool Bool.false, Value.slice (Option.some (Addr.mk (Nat.add (Nat.succ (Nat.succ (Nat.succ
(Nat.succ (Nat.succ (Nat.add (Nat.add (Nat.succ (Nat.succ (Nat.succ (Nat.succ (Nat.succ (Nat.succ (Nat.succ (Nat.succ (Nat.succ (Nat.succ (Nat.succ (Nat.succ (Nat.succ (Nat.succ
(Nat.succ (Nat.succ (Nat.add ((12 : Nat) + (18 : Nat)) (Nat.sub ((12 : Nat) + (7 : Nat)) (19 : Nat))))))))))))))))))) (Nat.sub ((12 : Nat) + (6 : Nat)) (15 : Nat))) (Nat.sub ((12 :
Nat) + (2 : Nat)) (13 : Nat)))))))) (1 : Nat)) (0 : Nat) Option.none)) (nat_lit 2) x71.2.1])), Value.iface (1000000009 : Nat) (Value.agg (Array.mk [Value.bool Bool.false,
Value.slice (Option.some (Addr.mk (Nat.add (Nat.succ (Nat.succ (Nat.succ (Nat.succ (Nat.succ (Nat.add (Nat.add (Nat.succ (Nat.succ (Nat.succ (Nat.succ (Nat.succ (Nat.succ (Nat.succ
(Nat.succ (Nat.succ (Nat.succ (Nat.succ (Nat.succ (Nat.succ (Nat.succ (Nat.succ (Nat.succ (Nat.add ((12 : Nat) + (18 : Nat)) (Nat.sub ((12 : Nat) + (7 : Nat)) (19 :
Nat))))))))))))))))))) (Nat.sub ((12 : Nat) + (6 : Nat)) (15 : Nat))) (Nat.sub ((12 : Nat) + (2 : Nat)) (13 : Nat)))))))) (2 : Nat)) (0 : Nat) Option.none)) (nat_lit 2) x71.3.1])),
Value.iface (1000000007 : Nat) (Value.int IntKind.i64 (Int.ofNat (0 : Nat))), Value.iface (1000000007 : Nat) (Value.int IntKind.i64 (Int.ofNat (0 : Nat))), Value.iface (1000000007
: Nat) (Value.int IntKind.i64 (Int.ofNat (0 : Nat))), Value.iface (1000000007 : Nat) (Value.int IntKind.i64 (Int.ofNat (0 : Nat))), Value.iface (1000000007 : Nat) (Value.int
IntKind.u64 (Int.ofNat (0 : Nat))), Value.iface (1000000009 : Nat) (Value.agg (Array.mk [Value.bool a.2.1, Value.slice (Option.some (Addr.mk (Nat.add (Nat.add (Nat.succ (Nat.succ
(Nat.succ (Nat.succ (Nat.succ (Nat.add (Nat.add (Nat.succ (Nat.succ (Nat.succ (Nat.succ (Nat.succ (Nat.succ (Nat.succ (Nat.succ (Nat.succ (Nat.succ (Nat.succ (Nat.succ (Nat.succ
(Nat.succ (Nat.succ (Nat.succ (Nat.add ((12 : Nat) + (18 : Nat)) (Nat.sub ((12 : Nat) + (7 : Nat)) (19 : Nat))))))))))))))))))) (Nat.sub ((12 : Nat) + (6 : Nat)) (15 : Nat)))
(Nat.sub ((12 : Nat) + (2 : Nat)) (13 : Nat)))))))) (Nat.sub ((12 : Nat) + (6 : Nat)) (15 : Nat))) (0 : Nat)) (0 : Nat) Option.none)) a.2.3 x74.1]))] (76 : Nat) Md.own)
def W_G_noneA_3 : NnA → NnQ → PB → RW → Option AO := fun (a : NnA) (x50 : NnQ) (x71 : PB) (x74 : RW) => Option.some (AO.row [Value.iface (1000000007 : Nat) (Value.int IntKind.u8 x50.1.2.1), Value.iface (1000000007 : Nat) (Value.int
IntKind.u8 x50.1.2.2), Value.iface (1000000007 : Nat) (Value.int IntKind.u8 x50.1.2.3), Value.iface (1000000007 : Nat) (Value.int IntKind.u8 x50.1.2.4), Value.iface (1000000007 :
Nat) (Value.int IntKind.u8 x50.1.2.5), Value.iface (1000000007 : Nat) (Value.int IntKind.u8 x50.1.2.6), Value.iface (1000000007 : Nat) (Value.int IntKind.u8 x50.1.2.7), Value.iface
(1000000007 : Nat) (Value.int IntKind.u8 x50.1.2.8), Value.iface (1000000009 : Nat) (Value.agg (Array.mk [Value.bool Bool.false, Value.slice (Option.some (Addr.mk (Nat.add
(Nat.succ (Nat.succ (Nat.succ (Nat.succ (Nat.succ (Nat.add (Nat.add (Nat.succ (Nat.succ (Nat.succ (Nat.succ (Nat.succ (Nat.succ (Nat.succ (Nat.succ (Nat.succ (Nat.succ (Nat.succ
(Nat.succ (Nat.succ (Nat.succ (Nat.succ (Nat.succ (Nat.add ((12 : Nat) + (18 : Nat)) (Nat.sub ((12 : Nat) + (7 : Nat)) (19 : Nat))))))))))))))))))) (Nat.sub ((12 : Nat) + (6 :
Nat)) (15 : Nat))) (Nat.sub ((12 : Nat) + (2 : Nat)) (13 : Nat)))))))) (0 : Nat)) (0 : Nat) Option.none)) (nat_lit 2) x71.1.1])), Value.iface (1000000009 : Nat) (Value.agg
(Array.mk [Value.bool Bool.false, Value.slice (Option.some (Addr.mk (Nat.add (Nat.succ (Nat.succ (Nat.succ (Nat.succ (Nat.succ (Nat.add (Nat.add (Nat.succ (Nat.succ (Nat.succ
(Nat.succ (Nat.succ (Nat.succ (Nat.succ (Nat.succ (Nat.succ (Nat.succ (Nat.succ (Nat.succ (Nat.succ (Nat.succ (Nat.succ (Nat.succ (Nat.add ((12 : Nat) + (18 : Nat)) (Nat.sub ((12 :
Nat) + (7 : Nat)) (19 : Nat))))))))))))))))))) (Nat.sub ((12 : Nat) + (6 : Nat)) (15 : Nat))) (Nat.sub ((12 : Nat) + (2 : Nat)) (13 : Nat)))))))) (1 : Nat)) (0 : Nat) Option.none))
(nat_lit 2) x71.2.1])), Value.iface (1000000009 : Nat) (Value.agg (Array.mk [Value.bool Bool.false, Value.slice (Option.some (Addr.mk (Nat.add (Nat.succ (Nat.succ (Nat.succ
(Nat.succ (Nat.succ (Nat.add (Nat.add (Nat.succ (Nat.succ (Nat.succ (Nat.succ (Nat.succ (Nat.succ (Nat.succ (Nat.succ (Nat.succ (Nat.succ (Nat.succ (Nat.succ (Nat.succ (Nat.succ
(Nat.succ (Nat.succ (Nat.add ((12 : Nat) + (18 : Nat)) (Nat.sub ((12 : Nat) + (7 : Nat)) (19 : Nat))))))))))))))))))) (Nat.sub ((12 : Nat) + (6 : Nat)) (15 : Nat))) (Nat.sub ((12 :
Nat) + (2 : Nat)) (13 : Nat)))))))) (2 : Nat)) (0 : Nat) Option.none)) (nat_lit 2) x71.3.1])), Value.iface (1000000007 : Nat) (Value.int IntKind.i64 (Int.ofNat (0 : Nat))),
Value.iface (1000000007 : Nat) (Value.int IntKind.i64 (Int.ofNat (0 : Nat))), Value.iface (1000000007 : Nat) (Value.int IntKind.i64 (Int.ofNat (0 : Nat))), Value.iface (1000000007
: Nat) (Value.int IntKind.i64 (Int.ofNat (0 : Nat))), Value.iface (1000000007 : Nat) (Value.int IntKind.u64 (Int.ofNat (0 : Nat))), Value.iface (1000000009 : Nat) (Value.agg
(Array.mk [Value.bool a.2.1, Value.slice (Option.some (Addr.mk (Nat.add (Nat.add (Nat.succ (Nat.succ (Nat.succ (Nat.succ (Nat.succ (Nat.add (Nat.add (Nat.succ (Nat.succ (Nat.succ
(Nat.succ (Nat.succ (Nat.succ (Nat.succ (Nat.succ (Nat.succ (Nat.succ (Nat.succ (Nat.succ (Nat.succ (Nat.succ (Nat.succ (Nat.succ (Nat.add ((12 : Nat) + (18 : Nat)) (Nat.sub ((12 :
Nat) + (7 : Nat)) (19 : Nat))))))))))))))))))) (Nat.sub ((12 : Nat) + (6 : Nat)) (15 : Nat))) (Nat.sub ((12 : Nat) + (2 : Nat)) (13 : Nat)))))))) (Nat.sub ((12 : Nat) + (6 : Nat))
(15 : Nat))) (0 : Nat)) (0 : Nat) Option.none)) a.2.3 x74.1]))] (43 : Nat) Md.own)
end
theorem vc_noneA (a : NnA) (xs : List Int) : G_noneA a xs = ((True ∧ True) ∧ (True ∧ (True ∧ FlatL cells0 ∧ cells0 = cells0) ∧ (True ∧ FlatL cells1 ∧ cells1 = cells1) ∧ (True ∧ FlatL cells2 ∧ cells2 = cells2) ∧ (True ∧ FlatL cells4 ∧ cells4
= cells4) ∧ (True ∧ FlatL cells5 ∧ cells5 = cells5) ∧ (True ∧ FlatL cells6 ∧ cells6 = cells6) ∧ (True ∧ FlatL cells8 ∧ cells8 = cells8) ∧ (True ∧ FlatL cells9 ∧ cells9 = cells9) ∧
(True ∧ FlatL cells10 ∧ cells10 = cells10) ∧ True) ∧ (∀ (x0 : Unit), True → ∀ (x1 : Int), x1 = (↑a.2.3 : Int) → ((10 : Int) < x1 → (True ∧ True) ∧ (True ∧ (True ∧ FlatL cells0 ∧
cells0 = cells0) ∧ (True ∧ FlatL cells1 ∧ cells1 = cells1) ∧ (True ∧ FlatL cells2 ∧ cells2 = cells2) ∧ (True ∧ FlatL cells4 ∧ cells4 = cells4) ∧ (True ∧ FlatL cells5 ∧ cells5 =
cells5) ∧ (True ∧ FlatL cells6 ∧ cells6 = cells6) ∧ (True ∧ FlatL cells8 ∧ cells8 = cells8) ∧ (True ∧ FlatL cells9 ∧ cells9 = cells9) ∧ (True ∧ FlatL cells10 ∧ cells10 = cells10) ∧
True) ∧ (∀ (x2 : Unit), True → ∃ (x3 : Unit), True ∧ Bool.true = Bool.true ∧ True) ∧ True) ∧ (¬(10 : Int) < x1 → (True ∧ (0 : Int) ≤ a.1 ∧ a.1 < (256 : Int)) ∧ ((a.1 = a.1 ∧ True)
∧ (True ∧ FlatL cells0 ∧ cells0 = cells0) ∧ (True ∧ FlatL cells1 ∧ cells1 = cells1) ∧ (True ∧ FlatL cells2 ∧ cells2 = cells2) ∧ (True ∧ FlatL cells4 ∧ cells4 = cells4) ∧ (True ∧
FlatL cells5 ∧ cells5 = cells5) ∧ (True ∧ FlatL cells6 ∧ cells6 = cells6) ∧ (True ∧ FlatL cells8 ∧ cells8 = cells8) ∧ (True ∧ FlatL cells9 ∧ cells9 = cells9) ∧ (True ∧ FlatL
cells10 ∧ cells10 = cells10) ∧ True) ∧ (∀ (x4 : StO), (rlF x4.1 ∧ x4.1.1.3 = (2 : Nat) ∧ x4.1.2.3 = (2 : Nat) ∧ ∃ (x5 : PX), ∃ (x6 : List Int), PH (PA.mk (SA.mk Bool.false (0 :
Nat) (2 : Nat) x4.3.1 x4.3.2) (SA.mk Bool.false (0 : Nat) (2 : Nat) x4.4.1 x4.4.2) (SA.mk Bool.false (0 : Nat) (2 : Nat) x4.5.1 x4.5.2) (0 : Int) (0 : Int) (0 : Int) (0 : Int) (0 :
Int)) x5 ∧ Sli (Value.int IntKind.i32) (2 : Nat) x4.1.2.1 x4.1.2.2 x4.1.2.3 x4.1.2.4 x4.1.2.5 x6 ∧ inAll x6 x5.1 (2 : Nat)) → (True ∧ (rlF x4.1 ∧ okNw (NwA.mk x4.1 (PA.mk (SA.mk
Bool.false (nat_lit 0) (nat_lit 2) x4.3.1 x4.3.2) (SA.mk Bool.false (nat_lit 0) (nat_lit 2) x4.4.1 x4.4.2) (SA.mk Bool.false (nat_lit 0) (nat_lit 2) x4.5.1 x4.5.2) (Int.ofNat (0 :
Nat)) (Int.ofNat (0 : Nat)) (Int.ofNat (0 : Nat)) (Int.ofNat (0 : Nat)) (Int.ofNat (0 : Nat))) a.2) ∧ (nat_lit 2 ≤ (1000 : Nat) ∧ nat_lit 2 ≤ (1000 : Nat) ∧ nat_lit 2 ≤ (1000 :
Nat)) ∧ (∃ (x7 : List Int), Sli (Value.int IntKind.i64) (1 : Nat) a.2.1 a.2.2 a.2.3 a.2.4 a.2.5 x7) ∧ a.2.3 ≤ (1000 : Nat)) ∧ nat_lit 2 = x4.1.2.3 ∧ goodS (NwA.mk x4.1 (PA.mk
(SA.mk Bool.false (nat_lit 0) (nat_lit 2) x4.3.1 x4.3.2) (SA.mk Bool.false (nat_lit 0) (nat_lit 2) x4.4.1 x4.4.2) (SA.mk Bool.false (nat_lit 0) (nat_lit 2) x4.5.1 x4.5.2)
(Int.ofNat (0 : Nat)) (Int.ofNat (0 : Nat)) (Int.ofNat (0 : Nat)) (Int.ofNat (0 : Nat)) (Int.ofNat (0 : Nat))) a.2)) ∧ (((0 : Nat) = (0 : Nat) ∧ ((Bool.false = Bool.false ∧ nat_lit
0 = nat_lit 0 ∧ nat_lit 2 = nat_lit 2 ∧ x4.3.1 = x4.3.1) ∧ (Bool.false = Bool.false ∧ nat_lit 0 = nat_lit 0 ∧ nat_lit 2 = nat_lit 2 ∧ x4.4.1 = x4.4.1) ∧ (Bool.false = Bool.false ∧
nat_lit 0 = nat_lit 0 ∧ nat_lit 2 = nat_lit 2 ∧ x4.5.1 = x4.5.1) ∧ Int.ofNat (0 : Nat) = Int.ofNat (0 : Nat) ∧ Int.ofNat (0 : Nat) = Int.ofNat (0 : Nat) ∧ Int.ofNat (0 : Nat) =
Int.ofNat (0 : Nat) ∧ Int.ofNat (0 : Nat) = Int.ofNat (0 : Nat) ∧ Int.ofNat (0 : Nat) = Int.ofNat (0 : Nat) ∧ True) ∧ (a.2.1 = a.2.1 ∧ a.2.2 = a.2.2 ∧ a.2.3 = a.2.3 ∧ a.2.4 =
a.2.4) ∧ True) ∧ (True ∧ True ∧ (x4.1.1.1 = x4.1.1.1 ∧ x4.1.1.2 = x4.1.1.2 ∧ x4.1.1.3 = x4.1.1.3 ∧ x4.1.1.4 = x4.1.1.4) ∧ True ∧ True ∧ True ∧ True ∧ True ∧ True ∧ True ∧ True ∧
True ∧ True ∧ (x4.1.2.1 = x4.1.2.1 ∧ x4.1.2.2 = x4.1.2.2 ∧ x4.1.2.3 = x4.1.2.3 ∧ x4.1.2.4 = x4.1.2.4) ∧ True) ∧ (True ∧ FlatL x4.1.1.5 ∧ x4.1.1.5 = x4.1.1.5) ∧ (True ∧ FlatL
x4.1.2.5 ∧ x4.1.2.5 = x4.1.2.5) ∧ (True ∧ FlatL x4.3.2 ∧ x4.3.2 = x4.3.2) ∧ (True ∧ FlatL x4.4.2 ∧ x4.4.2 = x4.4.2) ∧ (True ∧ FlatL x4.5.2 ∧ x4.5.2 = x4.5.2) ∧ (True ∧ FlatL a.2.5
∧ a.2.5 = a.2.5) ∧ True) ∧ (∀ (x8 : NwO), ((∀ (x9 : List Int), Sli (Value.int IntKind.i64) (1 : Nat) a.2.1 a.2.2 a.2.3 a.2.4 a.2.5 x9 → Sli (Value.int IntKind.i64) (1 : Nat) a.2.1
(0 : Nat) a.2.3 x8.2.1 x8.2.2 x9) ∧ ∀ (x10 : PX), PH (PA.mk (SA.mk Bool.false (nat_lit 0) (nat_lit 2) x4.3.1 x4.3.2) (SA.mk Bool.false (nat_lit 0) (nat_lit 2) x4.4.1 x4.4.2) (SA.mk
Bool.false (nat_lit 0) (nat_lit 2) x4.5.1 x4.5.2) (Int.ofNat (0 : Nat)) (Int.ofNat (0 : Nat)) (Int.ofNat (0 : Nat)) (Int.ofNat (0 : Nat)) (Int.ofNat (0 : Nat))) x10 → PH (PA.mk
(SA.mk Bool.false (0 : Nat) (nat_lit 2) x8.1.1.1 x8.1.1.2) (SA.mk Bool.false (0 : Nat) (nat_lit 2) x8.1.2.1 x8.1.2.2) (SA.mk Bool.false (0 : Nat) (nat_lit 2) x8.1.3.1 x8.1.3.2)
(Int.ofNat (0 : Nat)) (Int.ofNat (0 : Nat)) (Int.ofNat (0 : Nat)) (Int.ofNat (0 : Nat)) (Int.ofNat (0 : Nat))) x10) → ∀ (x11 : Int), x11 = (↑a.2.3 : Int) → ∃ (x12 : NnL), ((((0 :
Int) ≤ x12.3 ∧ x12.3 ≤ (↑a.2.3 : Int)) ∧ x12.4 = sumC (List.take (Int.toNat x12.3) xs)) ∧ okSt x12.1 ∧ (∀ (x13 : PX), PH (PA.mk (SA.mk Bool.false (0 : Nat) (2 : Nat) x12.1.3.1
x12.1.3.2) (SA.mk Bool.false (0 : Nat) (2 : Nat) x12.1.4.1 x12.1.4.2) (SA.mk Bool.false (0 : Nat) (2 : Nat) x12.1.5.1 x12.1.5.2) (0 : Int) (0 : Int) (0 : Int) (0 : Int) (0 : Int))
x13 → PH (PA.mk (SA.mk Bool.false (0 : Nat) (nat_lit 2) x12.2.1.1.1 x12.2.1.1.2) (SA.mk Bool.false (0 : Nat) (nat_lit 2) x12.2.1.2.1 x12.2.1.2.2) (SA.mk Bool.false (0 : Nat)
(nat_lit 2) x12.2.1.3.1 x12.2.1.3.2) (Int.ofNat (0 : Nat)) (Int.ofNat (0 : Nat)) (Int.ofNat (0 : Nat)) (Int.ofNat (0 : Nat)) (Int.ofNat (0 : Nat))) x13) ∧ Sli (Value.int
IntKind.i64) (1 : Nat) a.2.1 (0 : Nat) a.2.3 x12.2.2.1 x12.2.2.2 xs) ∧ (((a.2.1 = a.2.1 ∧ a.2.2 = a.2.2 ∧ a.2.3 = a.2.3 ∧ a.2.4 = a.2.4) ∧ a.3 = a.3 ∧ (0 : Nat) = (0 : Nat) ∧ (0 :
Nat) = (0 : Nat) ∧ (0 : Nat) = (0 : Nat) ∧ (0 : Int) = (0 : Int) ∧ (0 : Int) = (0 : Int) ∧ x12.4 = (0 : Int) ∧ (a.2.1 = a.2.1 ∧ a.2.2 = a.2.2 ∧ a.2.3 = a.2.3 ∧ a.2.4 = a.2.4) ∧
(↑a.2.3 : Int) = x11 ∧ x12.3 = (0 : Int) ∧ True) ∧ ((True ∧ FlatL a.2.5 ∧ a.2.5 = a.2.5) ∧ (True ∧ True ∧ (x12.1.1.1.1 = x4.1.1.1 ∧ x12.1.1.1.2 = x4.1.1.2 ∧ x12.1.1.1.3 = x4.1.1.3
∧ x12.1.1.1.4 = x4.1.1.4) ∧ x12.1.2.1 = x4.2.1 ∧ x12.1.2.2 = x4.2.2 ∧ x12.1.2.3 = x4.2.3 ∧ x12.1.2.4 = x4.2.4 ∧ x12.1.2.5 = x4.2.5 ∧ x12.1.2.6 = x4.2.6 ∧ x12.1.2.7 = x4.2.7 ∧
x12.1.2.8 = x4.2.8 ∧ True ∧ True ∧ (x12.1.1.2.1 = x4.1.2.1 ∧ x12.1.1.2.2 = x4.1.2.2 ∧ x12.1.1.2.3 = x4.1.2.3 ∧ x12.1.1.2.4 = x4.1.2.4) ∧ True) ∧ (True ∧ FlatL x12.1.1.1.5 ∧
x12.1.1.1.5 = x4.1.1.5) ∧ (True ∧ FlatL x12.1.1.2.5 ∧ x12.1.1.2.5 = x4.1.2.5) ∧ (True ∧ FlatL x12.1.3.2 ∧ x12.1.3.2 = x4.3.2) ∧ (True ∧ FlatL x12.1.4.2 ∧ x12.1.4.2 = x4.4.2) ∧
(True ∧ FlatL x12.1.5.2 ∧ x12.1.5.2 = x4.5.2) ∧ (True ∧ (Bool.false = Bool.false ∧ nat_lit 0 = nat_lit 0 ∧ nat_lit 2 = nat_lit 2 ∧ x12.1.3.1 = x4.3.1) ∧ (Bool.false = Bool.false ∧
nat_lit 0 = nat_lit 0 ∧ nat_lit 2 = nat_lit 2 ∧ x12.1.4.1 = x4.4.1) ∧ (Bool.false = Bool.false ∧ nat_lit 0 = nat_lit 0 ∧ nat_lit 2 = nat_lit 2 ∧ x12.1.5.1 = x4.5.1) ∧ Int.ofNat (0
: Nat) = Int.ofNat (0 : Nat) ∧ Int.ofNat (0 : Nat) = Int.ofNat (0 : Nat) ∧ Int.ofNat (0 : Nat) = Int.ofNat (0 : Nat) ∧ Int.ofNat (0 : Nat) = Int.ofNat (0 : Nat) ∧ Int.ofNat (0 :
Nat) = Int.ofNat (0 : Nat) ∧ True) ∧ (True ∧ ((0 : Nat) = (0 : Nat) ∧ (1 : Nat) = (1 : Nat) ∧ (1 : Nat) = (1 : Nat)) ∧ True) ∧ (True ∧ (0 : Nat) = (0 : Nat) ∧ (Bool.false =
Bool.false ∧ nat_lit 0 = nat_lit 0 ∧ nat_lit 2 = nat_lit 2 ∧ x12.2.1.1.1 = x8.1.1.1) ∧ (Bool.false = Bool.false ∧ nat_lit 0 = nat_lit 0 ∧ nat_lit 2 = nat_lit 2 ∧ x12.2.1.2.1 =
x8.1.2.1) ∧ (Bool.false = Bool.false ∧ nat_lit 0 = nat_lit 0 ∧ nat_lit 2 = nat_lit 2 ∧ x12.2.1.3.1 = x8.1.3.1) ∧ Int.ofNat (0 : Nat) = Int.ofNat (0 : Nat) ∧ Int.ofNat (0 : Nat) =
Int.ofNat (0 : Nat) ∧ Int.ofNat (0 : Nat) = Int.ofNat (0 : Nat) ∧ Int.ofNat (0 : Nat) = Int.ofNat (0 : Nat) ∧ Int.ofNat (0 : Nat) = Int.ofNat (0 : Nat) ∧ (a.2.1 = a.2.1 ∧ nat_lit 0
= nat_lit 0 ∧ a.2.3 = a.2.3 ∧ x12.2.2.1 = x8.2.1) ∧ True) ∧ (x12.2.1.1.1 = x8.1.1.1 ∧ FlatL x12.2.1.1.2 ∧ x12.2.1.1.2 = x8.1.1.2) ∧ (x12.2.1.2.1 = x8.1.2.1 ∧ FlatL x12.2.1.2.2 ∧
x12.2.1.2.2 = x8.1.2.2) ∧ (x12.2.1.3.1 = x8.1.3.1 ∧ FlatL x12.2.1.3.2 ∧ x12.2.1.3.2 = x8.1.3.2) ∧ (x12.2.2.1 = x8.2.1 ∧ FlatL x12.2.2.2 ∧ x12.2.2.2 = x8.2.2) ∧ True) ∧ True) ∧ ∀
(x14 : NnL), (((0 : Int) ≤ x14.3 ∧ x14.3 ≤ (↑a.2.3 : Int)) ∧ x14.4 = sumC (List.take (Int.toNat x14.3) xs)) ∧ okSt x14.1 ∧ (∀ (x15 : PX), PH (PA.mk (SA.mk Bool.false (0 : Nat) (2 :
Nat) x14.1.3.1 x14.1.3.2) (SA.mk Bool.false (0 : Nat) (2 : Nat) x14.1.4.1 x14.1.4.2) (SA.mk Bool.false (0 : Nat) (2 : Nat) x14.1.5.1 x14.1.5.2) (0 : Int) (0 : Int) (0 : Int) (0 :
Int) (0 : Int)) x15 → PH (PA.mk (SA.mk Bool.false (0 : Nat) (nat_lit 2) x14.2.1.1.1 x14.2.1.1.2) (SA.mk Bool.false (0 : Nat) (nat_lit 2) x14.2.1.2.1 x14.2.1.2.2) (SA.mk Bool.false
(0 : Nat) (nat_lit 2) x14.2.1.3.1 x14.2.1.3.2) (Int.ofNat (0 : Nat)) (Int.ofNat (0 : Nat)) (Int.ofNat (0 : Nat)) (Int.ofNat (0 : Nat)) (Int.ofNat (0 : Nat))) x15) ∧ Sli (Value.int
IntKind.i64) (1 : Nat) a.2.1 (0 : Nat) a.2.3 x14.2.2.1 x14.2.2.2 xs → (x14.3 < (↑a.2.3 : Int) → ((0 : Int) ≤ x14.3 ∧ x14.3 < (↑a.2.3 : Int)) ∧ ∀ (x16 : Nat), x16 = a.2.2 +
Int.toNat x14.3 * (1 : Nat) → ∃ (x17 : Int), Rd a.2.5 (Nat.add x16 (0 : Nat)) (Value.int IntKind.i64 x17) ∧ (x17 < (0 : Int) → ∀ (x18 : Int), x18 = IntKind.wrap IntKind.i64 (x14.3
+ (1 : Int)) → ∃ (x19 : NnL), ((((0 : Int) ≤ x19.3 ∧ x19.3 ≤ (↑a.2.3 : Int)) ∧ x19.4 = sumC (List.take (Int.toNat x19.3) xs)) ∧ okSt x19.1 ∧ (∀ (x20 : PX), PH (PA.mk (SA.mk
Bool.false (0 : Nat) (2 : Nat) x19.1.3.1 x19.1.3.2) (SA.mk Bool.false (0 : Nat) (2 : Nat) x19.1.4.1 x19.1.4.2) (SA.mk Bool.false (0 : Nat) (2 : Nat) x19.1.5.1 x19.1.5.2) (0 : Int)
(0 : Int) (0 : Int) (0 : Int) (0 : Int)) x20 → PH (PA.mk (SA.mk Bool.false (0 : Nat) (nat_lit 2) x19.2.1.1.1 x19.2.1.1.2) (SA.mk Bool.false (0 : Nat) (nat_lit 2) x19.2.1.2.1
x19.2.1.2.2) (SA.mk Bool.false (0 : Nat) (nat_lit 2) x19.2.1.3.1 x19.2.1.3.2) (Int.ofNat (0 : Nat)) (Int.ofNat (0 : Nat)) (Int.ofNat (0 : Nat)) (Int.ofNat (0 : Nat)) (Int.ofNat (0
: Nat))) x20) ∧ Sli (Value.int IntKind.i64) (1 : Nat) a.2.1 (0 : Nat) a.2.3 x19.2.2.1 x19.2.2.2 xs) ∧ Int.toNat ((↑a.2.3 : Int) - x19.3) < Int.toNat ((↑a.2.3 : Int) - x14.3) ∧
((a.2.1 = a.2.1 ∧ a.2.2 = a.2.2 ∧ a.2.3 = a.2.3 ∧ a.2.4 = a.2.4) ∧ a.3 = a.3 ∧ (0 : Nat) = (0 : Nat) ∧ (0 : Nat) = (0 : Nat) ∧ (0 : Nat) = (0 : Nat) ∧ (0 : Int) = (0 : Int) ∧ (0 :
Int) = (2 : Int) ∧ x19.4 = x14.4 ∧ (a.2.1 = a.2.1 ∧ a.2.2 = a.2.2 ∧ a.2.3 = a.2.3 ∧ a.2.4 = a.2.4) ∧ (↑a.2.3 : Int) = (↑a.2.3 : Int) ∧ x19.3 = x18 ∧ True) ∧ ((True ∧ FlatL a.2.5 ∧
a.2.5 = a.2.5) ∧ (True ∧ True ∧ (x19.1.1.1.1 = x14.1.1.1.1 ∧ x19.1.1.1.2 = x14.1.1.1.2 ∧ x19.1.1.1.3 = x14.1.1.1.3 ∧ x19.1.1.1.4 = x14.1.1.1.4) ∧ x19.1.2.1 = x14.1.2.1 ∧ x19.1.2.2
= x14.1.2.2 ∧ x19.1.2.3 = x14.1.2.3 ∧ x19.1.2.4 = x14.1.2.4 ∧ x19.1.2.5 = x14.1.2.5 ∧ x19.1.2.6 = x14.1.2.6 ∧ x19.1.2.7 = x14.1.2.7 ∧ x19.1.2.8 = x14.1.2.8 ∧ True ∧ True ∧
(x19.1.1.2.1 = x14.1.1.2.1 ∧ x19.1.1.2.2 = x14.1.1.2.2 ∧ x19.1.1.2.3 = x14.1.1.2.3 ∧ x19.1.1.2.4 = x14.1.1.2.4) ∧ True) ∧ (True ∧ FlatL x19.1.1.1.5 ∧ x19.1.1.1.5 = x14.1.1.1.5) ∧
(True ∧ FlatL x19.1.1.2.5 ∧ x19.1.1.2.5 = x14.1.1.2.5) ∧ (True ∧ FlatL x19.1.3.2 ∧ x19.1.3.2 = x14.1.3.2) ∧ (True ∧ FlatL x19.1.4.2 ∧ x19.1.4.2 = x14.1.4.2) ∧ (True ∧ FlatL
x19.1.5.2 ∧ x19.1.5.2 = x14.1.5.2) ∧ (True ∧ (Bool.false = Bool.false ∧ nat_lit 0 = nat_lit 0 ∧ nat_lit 2 = nat_lit 2 ∧ x19.1.3.1 = x14.1.3.1) ∧ (Bool.false = Bool.false ∧ nat_lit
0 = nat_lit 0 ∧ nat_lit 2 = nat_lit 2 ∧ x19.1.4.1 = x14.1.4.1) ∧ (Bool.false = Bool.false ∧ nat_lit 0 = nat_lit 0 ∧ nat_lit 2 = nat_lit 2 ∧ x19.1.5.1 = x14.1.5.1) ∧ Int.ofNat (0 :
Nat) = Int.ofNat (0 : Nat) ∧ Int.ofNat (0 : Nat) = Int.ofNat (0 : Nat) ∧ Int.ofNat (0 : Nat) = Int.ofNat (0 : Nat) ∧ Int.ofNat (0 : Nat) = Int.ofNat (0 : Nat) ∧ Int.ofNat (0 : Nat)
= Int.ofNat (0 : Nat) ∧ True) ∧ (True ∧ ((0 : Nat) = (0 : Nat) ∧ (1 : Nat) = (1 : Nat) ∧ (1 : Nat) = (1 : Nat)) ∧ True) ∧ (True ∧ (0 : Nat) = (0 : Nat) ∧ (Bool.false = Bool.false ∧
nat_lit 0 = nat_lit 0 ∧ nat_lit 2 = nat_lit 2 ∧ x19.2.1.1.1 = x14.2.1.1.1) ∧ (Bool.false = Bool.false ∧ nat_lit 0 = nat_lit 0 ∧ nat_lit 2 = nat_lit 2 ∧ x19.2.1.2.1 = x14.2.1.2.1) ∧
(Bool.false = Bool.false ∧ nat_lit 0 = nat_lit 0 ∧ nat_lit 2 = nat_lit 2 ∧ x19.2.1.3.1 = x14.2.1.3.1) ∧ Int.ofNat (0 : Nat) = Int.ofNat (0 : Nat) ∧ Int.ofNat (0 : Nat) = Int.ofNat
(0 : Nat) ∧ Int.ofNat (0 : Nat) = Int.ofNat (0 : Nat) ∧ Int.ofNat (0 : Nat) = Int.ofNat (0 : Nat) ∧ Int.ofNat (0 : Nat) = Int.ofNat (0 : Nat) ∧ (a.2.1 = a.2.1 ∧ nat_lit 0 = nat_lit
0 ∧ a.2.3 = a.2.3 ∧ x19.2.2.1 = x14.2.2.1) ∧ True) ∧ (x19.2.1.1.1 = x14.2.1.1.1 ∧ FlatL x19.2.1.1.2 ∧ x19.2.1.1.2 = x14.2.1.1.2) ∧ (x19.2.1.2.1 = x14.2.1.2.1 ∧ FlatL x19.2.1.2.2 ∧
x19.2.1.2.2 = x14.2.1.2.2) ∧ (x19.2.1.3.1 = x14.2.1.3.1 ∧ FlatL x19.2.1.3.2 ∧ x19.2.1.3.2 = x14.2.1.3.2) ∧ (x19.2.2.1 = x14.2.2.1 ∧ FlatL x19.2.2.2 ∧ x19.2.2.2 = x14.2.2.2) ∧ True)
∧ True) ∧ (¬x17 < (0 : Int) → ((1125899906842624 : Int) < x17 → ∀ (x21 : Int), x21 = IntKind.wrap IntKind.i64 (x14.3 + (1 : Int)) → ∃ (x22 : NnL), ((((0 : Int) ≤ x22.3 ∧ x22.3 ≤
(↑a.2.3 : Int)) ∧ x22.4 = sumC (List.take (Int.toNat x22.3) xs)) ∧ okSt x22.1 ∧ (∀ (x23 : PX), PH (PA.mk (SA.mk Bool.false (0 : Nat) (2 : Nat) x22.1.3.1 x22.1.3.2) (SA.mk
Bool.false (0 : Nat) (2 : Nat) x22.1.4.1 x22.1.4.2) (SA.mk Bool.false (0 : Nat) (2 : Nat) x22.1.5.1 x22.1.5.2) (0 : Int) (0 : Int) (0 : Int) (0 : Int) (0 : Int)) x23 → PH (PA.mk
(SA.mk Bool.false (0 : Nat) (nat_lit 2) x22.2.1.1.1 x22.2.1.1.2) (SA.mk Bool.false (0 : Nat) (nat_lit 2) x22.2.1.2.1 x22.2.1.2.2) (SA.mk Bool.false (0 : Nat) (nat_lit 2)
x22.2.1.3.1 x22.2.1.3.2) (Int.ofNat (0 : Nat)) (Int.ofNat (0 : Nat)) (Int.ofNat (0 : Nat)) (Int.ofNat (0 : Nat)) (Int.ofNat (0 : Nat))) x23) ∧ Sli (Value.int IntKind.i64) (1 : Nat)
a.2.1 (0 : Nat) a.2.3 x22.2.2.1 x22.2.2.2 xs) ∧ Int.toNat ((↑a.2.3 : Int) - x22.3) < Int.toNat ((↑a.2.3 : Int) - x14.3) ∧ ((a.2.1 = a.2.1 ∧ a.2.2 = a.2.2 ∧ a.2.3 = a.2.3 ∧ a.2.4 =
a.2.4) ∧ a.3 = a.3 ∧ (0 : Nat) = (0 : Nat) ∧ (0 : Nat) = (0 : Nat) ∧ (0 : Nat) = (0 : Nat) ∧ (0 : Int) = (0 : Int) ∧ (0 : Int) = (2 : Int) ∧ x22.4 = x14.4 ∧ (a.2.1 = a.2.1 ∧ a.2.2
= a.2.2 ∧ a.2.3 = a.2.3 ∧ a.2.4 = a.2.4) ∧ (↑a.2.3 : Int) = (↑a.2.3 : Int) ∧ x22.3 = x21 ∧ True) ∧ ((True ∧ FlatL a.2.5 ∧ a.2.5 = a.2.5) ∧ (True ∧ True ∧ (x22.1.1.1.1 = x14.1.1.1.1
∧ x22.1.1.1.2 = x14.1.1.1.2 ∧ x22.1.1.1.3 = x14.1.1.1.3 ∧ x22.1.1.1.4 = x14.1.1.1.4) ∧ x22.1.2.1 = x14.1.2.1 ∧ x22.1.2.2 = x14.1.2.2 ∧ x22.1.2.3 = x14.1.2.3 ∧ x22.1.2.4 = x14.1.2.4
∧ x22.1.2.5 = x14.1.2.5 ∧ x22.1.2.6 = x14.1.2.6 ∧ x22.1.2.7 = x14.1.2.7 ∧ x22.1.2.8 = x14.1.2.8 ∧ True ∧ True ∧ (x22.1.1.2.1 = x14.1.1.2.1 ∧ x22.1.1.2.2 = x14.1.1.2.2 ∧ x22.1.1.2.3
= x14.1.1.2.3 ∧ x22.1.1.2.4 = x14.1.1.2.4) ∧ True) ∧ (True ∧ FlatL x22.1.1.1.5 ∧ x22.1.1.1.5 = x14.1.1.1.5) ∧ (True ∧ FlatL x22.1.1.2.5 ∧ x22.1.1.2.5 = x14.1.1.2.5) ∧ (True ∧ FlatL
x22.1.3.2 ∧ x22.1.3.2 = x14.1.3.2) ∧ (True ∧ FlatL x22.1.4.2 ∧ x22.1.4.2 = x14.1.4.2) ∧ (True ∧ FlatL x22.1.5.2 ∧ x22.1.5.2 = x14.1.5.2) ∧ (True ∧ (Bool.false = Bool.false ∧
nat_lit 0 = nat_lit 0 ∧ nat_lit 2 = nat_lit 2 ∧ x22.1.3.1 = x14.1.3.1) ∧ (Bool.false = Bool.false ∧ nat_lit 0 = nat_lit 0 ∧ nat_lit 2 = nat_lit 2 ∧ x22.1.4.1 = x14.1.4.1) ∧
(Bool.false = Bool.false ∧ nat_lit 0 = nat_lit 0 ∧ nat_lit 2 = nat_lit 2 ∧ x22.1.5.1 = x14.1.5.1) ∧ Int.ofNat (0 : Nat) = Int.ofNat (0 : Nat) ∧ Int.ofNat (0 : Nat) = Int.ofNat (0 :
Nat) ∧ Int.ofNat (0 : Nat) = Int.ofNat (0 : Nat) ∧ Int.ofNat (0 : Nat) = Int.ofNat (0 : Nat) ∧ Int.ofNat (0 : Nat) = Int.ofNat (0 : Nat) ∧ True) ∧ (True ∧ ((0 : Nat) = (0 : Nat) ∧
(1 : Nat) = (1 : Nat) ∧ (1 : Nat) = (1 : Nat)) ∧ True) ∧ (True ∧ (0 : Nat) = (0 : Nat) ∧ (Bool.false = Bool.false ∧ nat_lit 0 = nat_lit 0 ∧ nat_lit 2 = nat_lit 2 ∧ x22.2.1.1.1 =
x14.2.1.1.1) ∧ (Bool.false = Bool.false ∧ nat_lit 0 = nat_lit 0 ∧ nat_lit 2 = nat_lit 2 ∧ x22.2.1.2.1 = x14.2.1.2.1) ∧ (Bool.false = Bool.false ∧ nat_lit 0 = nat_lit 0 ∧ nat_lit 2
= nat_lit 2 ∧ x22.2.1.3.1 = x14.2.1.3.1) ∧ Int.ofNat (0 : Nat) = Int.ofNat (0 : Nat) ∧ Int.ofNat (0 : Nat) = Int.ofNat (0 : Nat) ∧ Int.ofNat (0 : Nat) = Int.ofNat (0 : Nat) ∧
Int.ofNat (0 : Nat) = Int.ofNat (0 : Nat) ∧ Int.ofNat (0 : Nat) = Int.ofNat (0 : Nat) ∧ (a.2.1 = a.2.1 ∧ nat_lit 0 = nat_lit 0 ∧ a.2.3 = a.2.3 ∧ x22.2.2.1 = x14.2.2.1) ∧ True) ∧
(x22.2.1.1.1 = x14.2.1.1.1 ∧ FlatL x22.2.1.1.2 ∧ x22.2.1.1.2 = x14.2.1.1.2) ∧ (x22.2.1.2.1 = x14.2.1.2.1 ∧ FlatL x22.2.1.2.2 ∧ x22.2.1.2.2 = x14.2.1.2.2) ∧ (x22.2.1.3.1 =
x14.2.1.3.1 ∧ FlatL x22.2.1.3.2 ∧ x22.2.1.3.2 = x14.2.1.3.2) ∧ (x22.2.2.1 = x14.2.2.1 ∧ FlatL x22.2.2.2 ∧ x22.2.2.2 = x14.2.2.2) ∧ True) ∧ True) ∧ (¬(1125899906842624 : Int) < x17
→ ∀ (x24 : Int), x24 = IntKind.wrap IntKind.i64 (x14.4 + x17) → ∀ (x25 : Int), x25 = IntKind.wrap IntKind.i64 (x14.3 + (1 : Int)) → ∃ (x26 : NnL), ((((0 : Int) ≤ x26.3 ∧ x26.3 ≤
(↑a.2.3 : Int)) ∧ x26.4 = sumC (List.take (Int.toNat x26.3) xs)) ∧ okSt x26.1 ∧ (∀ (x27 : PX), PH (PA.mk (SA.mk Bool.false (0 : Nat) (2 : Nat) x26.1.3.1 x26.1.3.2) (SA.mk
Bool.false (0 : Nat) (2 : Nat) x26.1.4.1 x26.1.4.2) (SA.mk Bool.false (0 : Nat) (2 : Nat) x26.1.5.1 x26.1.5.2) (0 : Int) (0 : Int) (0 : Int) (0 : Int) (0 : Int)) x27 → PH (PA.mk
(SA.mk Bool.false (0 : Nat) (nat_lit 2) x26.2.1.1.1 x26.2.1.1.2) (SA.mk Bool.false (0 : Nat) (nat_lit 2) x26.2.1.2.1 x26.2.1.2.2) (SA.mk Bool.false (0 : Nat) (nat_lit 2)
x26.2.1.3.1 x26.2.1.3.2) (Int.ofNat (0 : Nat)) (Int.ofNat (0 : Nat)) (Int.ofNat (0 : Nat)) (Int.ofNat (0 : Nat)) (Int.ofNat (0 : Nat))) x27) ∧ Sli (Value.int IntKind.i64) (1 : Nat)
a.2.1 (0 : Nat) a.2.3 x26.2.2.1 x26.2.2.2 xs) ∧ Int.toNat ((↑a.2.3 : Int) - x26.3) < Int.toNat ((↑a.2.3 : Int) - x14.3) ∧ ((a.2.1 = a.2.1 ∧ a.2.2 = a.2.2 ∧ a.2.3 = a.2.3 ∧ a.2.4 =
a.2.4) ∧ a.3 = a.3 ∧ (0 : Nat) = (0 : Nat) ∧ (0 : Nat) = (0 : Nat) ∧ (0 : Nat) = (0 : Nat) ∧ (0 : Int) = (0 : Int) ∧ (0 : Int) = (0 : Int) ∧ x26.4 = x24 ∧ (a.2.1 = a.2.1 ∧ a.2.2 =
a.2.2 ∧ a.2.3 = a.2.3 ∧ a.2.4 = a.2.4) ∧ (↑a.2.3 : Int) = (↑a.2.3 : Int) ∧ x26.3 = x25 ∧ True) ∧ ((True ∧ FlatL a.2.5 ∧ a.2.5 = a.2.5) ∧ (True ∧ True ∧ (x26.1.1.1.1 = x14.1.1.1.1 ∧
x26.1.1.1.2 = x14.1.1.1.2 ∧ x26.1.1.1.3 = x14.1.1.1.3 ∧ x26.1.1.1.4 = x14.1.1.1.4) ∧ x26.1.2.1 = x14.1.2.1 ∧ x26.1.2.2 = x14.1.2.2 ∧ x26.1.2.3 = x14.1.2.3 ∧ x26.1.2.4 = x14.1.2.4 ∧
x26.1.2.5 = x14.1.2.5 ∧ x26.1.2.6 = x14.1.2.6 ∧ x26.1.2.7 = x14.1.2.7 ∧ x26.1.2.8 = x14.1.2.8 ∧ True ∧ True ∧ (x26.1.1.2.1 = x14.1.1.2.1 ∧ x26.1.1.2.2 = x14.1.1.2.2 ∧ x26.1.1.2.3 =
x14.1.1.2.3 ∧ x26.1.1.2.4 = x14.1.1.2.4) ∧ True) ∧ (True ∧ FlatL x26.1.1.1.5 ∧ x26.1.1.1.5 = x14.1.1.1.5) ∧ (True ∧ FlatL x26.1.1.2.5 ∧ x26.1.1.2.5 = x14.1.1.2.5) ∧ (True ∧ FlatL
x26.1.3.2 ∧ x26.1.3.2 = x14.1.3.2) ∧ (True ∧ FlatL x26.1.4.2 ∧ x26.1.4.2 = x14.1.4.2) ∧ (True ∧ FlatL x26.1.5.2 ∧ x26.1.5.2 = x14.1.5.2) ∧ (True ∧ (Bool.false = Bool.false ∧
nat_lit 0 = nat_lit 0 ∧ nat_lit 2 = nat_lit 2 ∧ x26.1.3.1 = x14.1.3.1) ∧ (Bool.false = Bool.false ∧ nat_lit 0 = nat_lit 0 ∧ nat_lit 2 = nat_lit 2 ∧ x26.1.4.1 = x14.1.4.1) ∧
(Bool.false = Bool.false ∧ nat_lit 0 = nat_lit 0 ∧ nat_lit 2 = nat_lit 2 ∧ x26.1.5.1 = x14.1.5.1) ∧ Int.ofNat (0 : Nat) = Int.ofNat (0 : Nat) ∧ Int.ofNat (0 : Nat) = Int.ofNat (0 :
Nat) ∧ Int.ofNat (0 : Nat) = Int.ofNat (0 : Nat) ∧ Int.ofNat (0 : Nat) = Int.ofNat (0 : Nat) ∧ Int.ofNat (0 : Nat) = Int.ofNat (0 : Nat) ∧ True) ∧ (True ∧ ((0 : Nat) = (0 : Nat) ∧
(1 : Nat) = (1 : Nat) ∧ (1 : Nat) = (1 : Nat)) ∧ True) ∧ (True ∧ (0 : Nat) = (0 : Nat) ∧ (Bool.false = Bool.false ∧ nat_lit 0 = nat_lit 0 ∧ nat_lit 2 = nat_lit 2 ∧ x26.2.1.1.1 =
x14.2.1.1.1) ∧ (Bool.false = Bool.false ∧ nat_lit 0 = nat_lit 0 ∧ nat_lit 2 = nat_lit 2 ∧ x26.2.1.2.1 = x14.2.1.2.1) ∧ (Bool.false = Bool.false ∧ nat_lit 0 = nat_lit 0 ∧ nat_lit 2
= nat_lit 2 ∧ x26.2.1.3.1 = x14.2.1.3.1) ∧ Int.ofNat (0 : Nat) = Int.ofNat (0 : Nat) ∧ Int.ofNat (0 : Nat) = Int.ofNat (0 : Nat) ∧ Int.ofNat (0 : Nat) = Int.ofNat (0 : Nat) ∧
Int.ofNat (0 : Nat) = Int.ofNat (0 : Nat) ∧ Int.ofNat (0 : Nat) = Int.ofNat (0 : Nat) ∧ (a.2.1 = a.2.1 ∧ nat_lit 0 = nat_lit 0 ∧ a.2.3 = a.2.3 ∧ x26.2.2.1 = x14.2.2.1) ∧ True) ∧
(x26.2.1.1.1 = x14.2.1.1.1 ∧ FlatL x26.2.1.1.2 ∧ x26.2.1.1.2 = x14.2.1.1.2) ∧ (x26.2.1.2.1 = x14.2.1.2.1 ∧ FlatL x26.2.1.2.2 ∧ x26.2.1.2.2 = x14.2.1.2.2) ∧ (x26.2.1.3.1 =
x14.2.1.3.1 ∧ FlatL x26.2.1.3.2 ∧ x26.2.1.3.2 = x14.2.1.3.2) ∧ (x26.2.2.1 = x14.2.2.1 ∧ FlatL x26.2.2.2 ∧ x26.2.2.2 = x14.2.2.2) ∧ True) ∧ True))) ∧ (¬x14.3 < (↑a.2.3 : Int) → (∀
(x28 : Int), x28 = (↑a.2.3 : Int) → (x28 ≠ (2 : Int) → ∃ (x29 : NnJ), (okSt x29.1 ∧ (∀ (x30 : PX), PH (PA.mk (SA.mk Bool.false (0 : Nat) (2 : Nat) x29.1.3.1 x29.1.3.2) (SA.mk
Bool.false (0 : Nat) (2 : Nat) x29.1.4.1 x29.1.4.2) (SA.mk Bool.false (0 : Nat) (2 : Nat) x29.1.5.1 x29.1.5.2) (0 : Int) (0 : Int) (0 : Int) (0 : Int) (0 : Int)) x30 → PH (PA.mk
(SA.mk Bool.false (0 : Nat) (nat_lit 2) x29.2.1.1.1 x29.2.1.1.2) (SA.mk Bool.false (0 : Nat) (nat_lit 2) x29.2.1.2.1 x29.2.1.2.2) (SA.mk Bool.false (0 : Nat) (nat_lit 2)
x29.2.1.3.1 x29.2.1.3.2) (Int.ofNat (0 : Nat)) (Int.ofNat (0 : Nat)) (Int.ofNat (0 : Nat)) (Int.ofNat (0 : Nat)) (Int.ofNat (0 : Nat))) x30) ∧ Sli (Value.int IntKind.i64) (1 : Nat)
a.2.1 (0 : Nat) a.2.3 x29.2.2.1 x29.2.2.2 xs) ∧ ((a.2.1 = a.2.1 ∧ a.2.2 = a.2.2 ∧ a.2.3 = a.2.3 ∧ a.2.4 = a.2.4) ∧ a.3 = a.3 ∧ (0 : Nat) = (0 : Nat) ∧ (0 : Nat) = (0 : Nat) ∧ (0 :
Nat) = (0 : Nat) ∧ (0 : Int) = (0 : Int) ∧ (0 : Int) = (3 : Int) ∧ True) ∧ ((True ∧ FlatL a.2.5 ∧ a.2.5 = a.2.5) ∧ (True ∧ True ∧ (x29.1.1.1.1 = x14.1.1.1.1 ∧ x29.1.1.1.2 =
x14.1.1.1.2 ∧ x29.1.1.1.3 = x14.1.1.1.3 ∧ x29.1.1.1.4 = x14.1.1.1.4) ∧ x29.1.2.1 = x14.1.2.1 ∧ x29.1.2.2 = x14.1.2.2 ∧ x29.1.2.3 = x14.1.2.3 ∧ x29.1.2.4 = x14.1.2.4 ∧ x29.1.2.5 =
x14.1.2.5 ∧ x29.1.2.6 = x14.1.2.6 ∧ x29.1.2.7 = x14.1.2.7 ∧ x29.1.2.8 = x14.1.2.8 ∧ True ∧ True ∧ (x29.1.1.2.1 = x14.1.1.2.1 ∧ x29.1.1.2.2 = x14.1.1.2.2 ∧ x29.1.1.2.3 = x14.1.1.2.3
∧ x29.1.1.2.4 = x14.1.1.2.4) ∧ True) ∧ (True ∧ FlatL x29.1.1.1.5 ∧ x29.1.1.1.5 = x14.1.1.1.5) ∧ (True ∧ FlatL x29.1.1.2.5 ∧ x29.1.1.2.5 = x14.1.1.2.5) ∧ (True ∧ FlatL x29.1.3.2 ∧
x29.1.3.2 = x14.1.3.2) ∧ (True ∧ FlatL x29.1.4.2 ∧ x29.1.4.2 = x14.1.4.2) ∧ (True ∧ FlatL x29.1.5.2 ∧ x29.1.5.2 = x14.1.5.2) ∧ (True ∧ (Bool.false = Bool.false ∧ nat_lit 0 =
nat_lit 0 ∧ nat_lit 2 = nat_lit 2 ∧ x29.1.3.1 = x14.1.3.1) ∧ (Bool.false = Bool.false ∧ nat_lit 0 = nat_lit 0 ∧ nat_lit 2 = nat_lit 2 ∧ x29.1.4.1 = x14.1.4.1) ∧ (Bool.false =
Bool.false ∧ nat_lit 0 = nat_lit 0 ∧ nat_lit 2 = nat_lit 2 ∧ x29.1.5.1 = x14.1.5.1) ∧ Int.ofNat (0 : Nat) = Int.ofNat (0 : Nat) ∧ Int.ofNat (0 : Nat) = Int.ofNat (0 : Nat) ∧
Int.ofNat (0 : Nat) = Int.ofNat (0 : Nat) ∧ Int.ofNat (0 : Nat) = Int.ofNat (0 : Nat) ∧ Int.ofNat (0 : Nat) = Int.ofNat (0 : Nat) ∧ True) ∧ (True ∧ ((0 : Nat) = (0 : Nat) ∧ (1 :
Nat) = (1 : Nat) ∧ (1 : Nat) = (1 : Nat)) ∧ True) ∧ (True ∧ (0 : Nat) = (0 : Nat) ∧ (Bool.false = Bool.false ∧ nat_lit 0 = nat_lit 0 ∧ nat_lit 2 = nat_lit 2 ∧ x29.2.1.1.1 =
x14.2.1.1.1) ∧ (Bool.false = Bool.false ∧ nat_lit 0 = nat_lit 0 ∧ nat_lit 2 = nat_lit 2 ∧ x29.2.1.2.1 = x14.2.1.2.1) ∧ (Bool.false = Bool.false ∧ nat_lit 0 = nat_lit 0 ∧ nat_lit 2
= nat_lit 2 ∧ x29.2.1.3.1 = x14.2.1.3.1) ∧ Int.ofNat (0 : Nat) = Int.ofNat (0 : Nat) ∧ Int.ofNat (0 : Nat) = Int.ofNat (0 : Nat) ∧ Int.ofNat (0 : Nat) = Int.ofNat (0 : Nat) ∧
Int.ofNat (0 : Nat) = Int.ofNat (0 : Nat) ∧ Int.ofNat (0 : Nat) = Int.ofNat (0 : Nat) ∧ (a.2.1 = a.2.1 ∧ nat_lit 0 = nat_lit 0 ∧ a.2.3 = a.2.3 ∧ x29.2.2.1 = x14.2.2.1) ∧ True) ∧
(x29.2.1.1.1 = x14.2.1.1.1 ∧ FlatL x29.2.1.1.2 ∧ x29.2.1.1.2 = x14.2.1.1.2) ∧ (x29.2.1.2.1 = x14.2.1.2.1 ∧ FlatL x29.2.1.2.2 ∧ x29.2.1.2.2 = x14.2.1.2.2) ∧ (x29.2.1.3.1 =
x14.2.1.3.1 ∧ FlatL x29.2.1.3.2 ∧ x29.2.1.3.2 = x14.2.1.3.2) ∧ (x29.2.2.1 = x14.2.2.1 ∧ FlatL x29.2.2.2 ∧ x29.2.2.2 = x14.2.2.2) ∧ True) ∧ True) ∧ (¬x28 ≠ (2 : Int) →
((1125899906842624 : Int) < x14.4 → ∃ (x31 : NnJ), (okSt x31.1 ∧ (∀ (x32 : PX), PH (PA.mk (SA.mk Bool.false (0 : Nat) (2 : Nat) x31.1.3.1 x31.1.3.2) (SA.mk Bool.false (0 : Nat) (2
: Nat) x31.1.4.1 x31.1.4.2) (SA.mk Bool.false (0 : Nat) (2 : Nat) x31.1.5.1 x31.1.5.2) (0 : Int) (0 : Int) (0 : Int) (0 : Int) (0 : Int)) x32 → PH (PA.mk (SA.mk Bool.false (0 :
Nat) (nat_lit 2) x31.2.1.1.1 x31.2.1.1.2) (SA.mk Bool.false (0 : Nat) (nat_lit 2) x31.2.1.2.1 x31.2.1.2.2) (SA.mk Bool.false (0 : Nat) (nat_lit 2) x31.2.1.3.1 x31.2.1.3.2)
(Int.ofNat (0 : Nat)) (Int.ofNat (0 : Nat)) (Int.ofNat (0 : Nat)) (Int.ofNat (0 : Nat)) (Int.ofNat (0 : Nat))) x32) ∧ Sli (Value.int IntKind.i64) (1 : Nat) a.2.1 (0 : Nat) a.2.3
x31.2.2.1 x31.2.2.2 xs) ∧ ((a.2.1 = a.2.1 ∧ a.2.2 = a.2.2 ∧ a.2.3 = a.2.3 ∧ a.2.4 = a.2.4) ∧ a.3 = a.3 ∧ (0 : Nat) = (0 : Nat) ∧ (0 : Nat) = (0 : Nat) ∧ (0 : Nat) = (0 : Nat) ∧ (0
: Int) = (0 : Int) ∧ (0 : Int) = (22 : Int) ∧ True) ∧ ((True ∧ FlatL a.2.5 ∧ a.2.5 = a.2.5) ∧ (True ∧ True ∧ (x31.1.1.1.1 = x14.1.1.1.1 ∧ x31.1.1.1.2 = x14.1.1.1.2 ∧ x31.1.1.1.3 =
x14.1.1.1.3 ∧ x31.1.1.1.4 = x14.1.1.1.4) ∧ x31.1.2.1 = x14.1.2.1 ∧ x31.1.2.2 = x14.1.2.2 ∧ x31.1.2.3 = x14.1.2.3 ∧ x31.1.2.4 = x14.1.2.4 ∧ x31.1.2.5 = x14.1.2.5 ∧ x31.1.2.6 =
x14.1.2.6 ∧ x31.1.2.7 = x14.1.2.7 ∧ x31.1.2.8 = x14.1.2.8 ∧ True ∧ True ∧ (x31.1.1.2.1 = x14.1.1.2.1 ∧ x31.1.1.2.2 = x14.1.1.2.2 ∧ x31.1.1.2.3 = x14.1.1.2.3 ∧ x31.1.1.2.4 =
x14.1.1.2.4) ∧ True) ∧ (True ∧ FlatL x31.1.1.1.5 ∧ x31.1.1.1.5 = x14.1.1.1.5) ∧ (True ∧ FlatL x31.1.1.2.5 ∧ x31.1.1.2.5 = x14.1.1.2.5) ∧ (True ∧ FlatL x31.1.3.2 ∧ x31.1.3.2 =
x14.1.3.2) ∧ (True ∧ FlatL x31.1.4.2 ∧ x31.1.4.2 = x14.1.4.2) ∧ (True ∧ FlatL x31.1.5.2 ∧ x31.1.5.2 = x14.1.5.2) ∧ (True ∧ (Bool.false = Bool.false ∧ nat_lit 0 = nat_lit 0 ∧
nat_lit 2 = nat_lit 2 ∧ x31.1.3.1 = x14.1.3.1) ∧ (Bool.false = Bool.false ∧ nat_lit 0 = nat_lit 0 ∧ nat_lit 2 = nat_lit 2 ∧ x31.1.4.1 = x14.1.4.1) ∧ (Bool.false = Bool.false ∧
nat_lit 0 = nat_lit 0 ∧ nat_lit 2 = nat_lit 2 ∧ x31.1.5.1 = x14.1.5.1) ∧ Int.ofNat (0 : Nat) = Int.ofNat (0 : Nat) ∧ Int.ofNat (0 : Nat) = Int.ofNat (0 : Nat) ∧ Int.ofNat (0 : Nat)
= Int.ofNat (0 : Nat) ∧ Int.ofNat (0 : Nat) = Int.ofNat (0 : Nat) ∧ Int.ofNat (0 : Nat) = Int.ofNat (0 : Nat) ∧ True) ∧ (True ∧ ((0 : Nat) = (0 : Nat) ∧ (1 : Nat) = (1 : Nat) ∧ (1
: Nat) = (1 : Nat)) ∧ True) ∧ (True ∧ (0 : Nat) = (0 : Nat) ∧ (Bool.false = Bool.false ∧ nat_lit 0 = nat_lit 0 ∧ nat_lit 2 = nat_lit 2 ∧ x31.2.1.1.1 = x14.2.1.1.1) ∧ (Bool.false =
Bool.false ∧ nat_lit 0 = nat_lit 0 ∧ nat_lit 2 = nat_lit 2 ∧ x31.2.1.2.1 = x14.2.1.2.1) ∧ (Bool.false = Bool.false ∧ nat_lit 0 = nat_lit 0 ∧ nat_lit 2 = nat_lit 2 ∧ x31.2.1.3.1 =
x14.2.1.3.1) ∧ Int.ofNat (0 : Nat) = Int.ofNat (0 : Nat) ∧ Int.ofNat (0 : Nat) = Int.ofNat (0 : Nat) ∧ Int.ofNat (0 : Nat) = Int.ofNat (0 : Nat) ∧ Int.ofNat (0 : Nat) = Int.ofNat
(0 : Nat) ∧ Int.ofNat (0 : Nat) = Int.ofNat (0 : Nat) ∧ (a.2.1 = a.2.1 ∧ nat_lit 0 = nat_lit 0 ∧ a.2.3 = a.2.3 ∧ x31.2.2.1 = x14.2.2.1) ∧ True) ∧ (x31.2.1.1.1 = x14.2.1.1.1 ∧ FlatL
x31.2.1.1.2 ∧ x31.2.1.1.2 = x14.2.1.1.2) ∧ (x31.2.1.2.1 = x14.2.1.2.1 ∧ FlatL x31.2.1.2.2 ∧ x31.2.1.2.2 = x14.2.1.2.2) ∧ (x31.2.1.3.1 = x14.2.1.3.1 ∧ FlatL x31.2.1.3.2 ∧
x31.2.1.3.2 = x14.2.1.3.2) ∧ (x31.2.2.1 = x14.2.2.1 ∧ FlatL x31.2.2.2 ∧ x31.2.2.2 = x14.2.2.2) ∧ True) ∧ True) ∧ (¬(1125899906842624 : Int) < x14.4 → ∃ (x33 : NnJ), (okSt x33.1 ∧
(∀ (x34 : PX), PH (PA.mk (SA.mk Bool.false (0 : Nat) (2 : Nat) x33.1.3.1 x33.1.3.2) (SA.mk Bool.false (0 : Nat) (2 : Nat) x33.1.4.1 x33.1.4.2) (SA.mk Bool.false (0 : Nat) (2 : Nat)
x33.1.5.1 x33.1.5.2) (0 : Int) (0 : Int) (0 : Int) (0 : Int) (0 : Int)) x34 → PH (PA.mk (SA.mk Bool.false (0 : Nat) (nat_lit 2) x33.2.1.1.1 x33.2.1.1.2) (SA.mk Bool.false (0 : Nat)
(nat_lit 2) x33.2.1.2.1 x33.2.1.2.2) (SA.mk Bool.false (0 : Nat) (nat_lit 2) x33.2.1.3.1 x33.2.1.3.2) (Int.ofNat (0 : Nat)) (Int.ofNat (0 : Nat)) (Int.ofNat (0 : Nat)) (Int.ofNat
(0 : Nat)) (Int.ofNat (0 : Nat))) x34) ∧ Sli (Value.int IntKind.i64) (1 : Nat) a.2.1 (0 : Nat) a.2.3 x33.2.2.1 x33.2.2.2 xs) ∧ ((a.2.1 = a.2.1 ∧ a.2.2 = a.2.2 ∧ a.2.3 = a.2.3 ∧
a.2.4 = a.2.4) ∧ a.3 = a.3 ∧ (0 : Nat) = (0 : Nat) ∧ (0 : Nat) = (0 : Nat) ∧ (0 : Nat) = (0 : Nat) ∧ (0 : Int) = (0 : Int) ∧ (0 : Int) = (0 : Int) ∧ True) ∧ ((True ∧ FlatL a.2.5 ∧
a.2.5 = a.2.5) ∧ (True ∧ True ∧ (x33.1.1.1.1 = x14.1.1.1.1 ∧ x33.1.1.1.2 = x14.1.1.1.2 ∧ x33.1.1.1.3 = x14.1.1.1.3 ∧ x33.1.1.1.4 = x14.1.1.1.4) ∧ x33.1.2.1 = x14.1.2.1 ∧ x33.1.2.2
= x14.1.2.2 ∧ x33.1.2.3 = x14.1.2.3 ∧ x33.1.2.4 = x14.1.2.4 ∧ x33.1.2.5 = x14.1.2.5 ∧ x33.1.2.6 = x14.1.2.6 ∧ x33.1.2.7 = x14.1.2.7 ∧ x33.1.2.8 = x14.1.2.8 ∧ True ∧ True ∧
(x33.1.1.2.1 = x14.1.1.2.1 ∧ x33.1.1.2.2 = x14.1.1.2.2 ∧ x33.1.1.2.3 = x14.1.1.2.3 ∧ x33.1.1.2.4 = x14.1.1.2.4) ∧ True) ∧ (True ∧ FlatL x33.1.1.1.5 ∧ x33.1.1.1.5 = x14.1.1.1.5) ∧
(True ∧ FlatL x33.1.1.2.5 ∧ x33.1.1.2.5 = x14.1.1.2.5) ∧ (True ∧ FlatL x33.1.3.2 ∧ x33.1.3.2 = x14.1.3.2) ∧ (True ∧ FlatL x33.1.4.2 ∧ x33.1.4.2 = x14.1.4.2) ∧ (True ∧ FlatL
x33.1.5.2 ∧ x33.1.5.2 = x14.1.5.2) ∧ (True ∧ (Bool.false = Bool.false ∧ nat_lit 0 = nat_lit 0 ∧ nat_lit 2 = nat_lit 2 ∧ x33.1.3.1 = x14.1.3.1) ∧ (Bool.false = Bool.false ∧ nat_lit
0 = nat_lit 0 ∧ nat_lit 2 = nat_lit 2 ∧ x33.1.4.1 = x14.1.4.1) ∧ (Bool.false = Bool.false ∧ nat_lit 0 = nat_lit 0 ∧ nat_lit 2 = nat_lit 2 ∧ x33.1.5.1 = x14.1.5.1) ∧ Int.ofNat (0 :
Nat) = Int.ofNat (0 : Nat) ∧ Int.ofNat (0 : Nat) = Int.ofNat (0 : Nat) ∧ Int.ofNat (0 : Nat) = Int.ofNat (0 : Nat) ∧ Int.ofNat (0 : Nat) = Int.ofNat (0 : Nat) ∧ Int.ofNat (0 : Nat)
= Int.ofNat (0 : Nat) ∧ True) ∧ (True ∧ ((0 : Nat) = (0 : Nat) ∧ (1 : Nat) = (1 : Nat) ∧ (1 : Nat) = (1 : Nat)) ∧ True) ∧ (True ∧ (0 : Nat) = (0 : Nat) ∧ (Bool.false = Bool.false ∧
nat_lit 0 = nat_lit 0 ∧ nat_lit 2 = nat_lit 2 ∧ x33.2.1.1.1 = x14.2.1.1.1) ∧ (Bool.false = Bool.false ∧ nat_lit 0 = nat_lit 0 ∧ nat_lit 2 = nat_lit 2 ∧ x33.2.1.2.1 = x14.2.1.2.1) ∧
(Bool.false = Bool.false ∧ nat_lit 0 = nat_lit 0 ∧ nat_lit 2 = nat_lit 2 ∧ x33.2.1.3.1 = x14.2.1.3.1) ∧ Int.ofNat (0 : Nat) = Int.ofNat (0 : Nat) ∧ Int.ofNat (0 : Nat) = Int.ofNat
(0 : Nat) ∧ Int.ofNat (0 : Nat) = Int.ofNat (0 : Nat) ∧ Int.ofNat (0 : Nat) = Int.ofNat (0 : Nat) ∧ Int.ofNat (0 : Nat) = Int.ofNat (0 : Nat) ∧ (a.2.1 = a.2.1 ∧ nat_lit 0 = nat_lit
0 ∧ a.2.3 = a.2.3 ∧ x33.2.2.1 = x14.2.2.1) ∧ True) ∧ (x33.2.1.1.1 = x14.2.1.1.1 ∧ FlatL x33.2.1.1.2 ∧ x33.2.1.1.2 = x14.2.1.1.2) ∧ (x33.2.1.2.1 = x14.2.1.2.1 ∧ FlatL x33.2.1.2.2 ∧
x33.2.1.2.2 = x14.2.1.2.2) ∧ (x33.2.1.3.1 = x14.2.1.3.1 ∧ FlatL x33.2.1.3.2 ∧ x33.2.1.3.2 = x14.2.1.3.2) ∧ (x33.2.2.1 = x14.2.2.1 ∧ FlatL x33.2.2.2 ∧ x33.2.2.2 = x14.2.2.2) ∧ True)
∧ True))) ∧ ∀ (x35 : NnJ), okSt x35.1 ∧ (∀ (x36 : PX), PH (PA.mk (SA.mk Bool.false (0 : Nat) (2 : Nat) x35.1.3.1 x35.1.3.2) (SA.mk Bool.false (0 : Nat) (2 : Nat) x35.1.4.1
x35.1.4.2) (SA.mk Bool.false (0 : Nat) (2 : Nat) x35.1.5.1 x35.1.5.2) (0 : Int) (0 : Int) (0 : Int) (0 : Int) (0 : Int)) x36 → PH (PA.mk (SA.mk Bool.false (0 : Nat) (nat_lit 2)
x35.2.1.1.1 x35.2.1.1.2) (SA.mk Bool.false (0 : Nat) (nat_lit 2) x35.2.1.2.1 x35.2.1.2.2) (SA.mk Bool.false (0 : Nat) (nat_lit 2) x35.2.1.3.1 x35.2.1.3.2) (Int.ofNat (0 : Nat))
(Int.ofNat (0 : Nat)) (Int.ofNat (0 : Nat)) (Int.ofNat (0 : Nat)) (Int.ofNat (0 : Nat))) x36) ∧ Sli (Value.int IntKind.i64) (1 : Nat) a.2.1 (0 : Nat) a.2.3 x35.2.2.1 x35.2.2.2 xs →
(True ∧ (∃ (x37 : PX), PH (PA.mk (SA.mk Bool.false (nat_lit 0) (nat_lit 2) x35.1.3.1 x35.1.3.2) (SA.mk Bool.false (nat_lit 0) (nat_lit 2) x35.1.4.1 x35.1.4.2) (SA.mk Bool.false
(nat_lit 0) (nat_lit 2) x35.1.5.1 x35.1.5.2) (Int.ofNat (0 : Nat)) (Int.ofNat (0 : Nat)) (Int.ofNat (0 : Nat)) (Int.ofNat (0 : Nat)) (Int.ofNat (0 : Nat))) x37) ∧ nat_lit 2 ≤ (1000
: Nat) ∧ nat_lit 2 ≤ (1000 : Nat) ∧ nat_lit 2 ≤ (1000 : Nat)) ∧ ((((Bool.false = Bool.false ∧ nat_lit 0 = nat_lit 0 ∧ nat_lit 2 = nat_lit 2 ∧ x35.1.3.1 = x35.1.3.1) ∧ (Bool.false =
Bool.false ∧ nat_lit 0 = nat_lit 0 ∧ nat_lit 2 = nat_lit 2 ∧ x35.1.4.1 = x35.1.4.1) ∧ (Bool.false = Bool.false ∧ nat_lit 0 = nat_lit 0 ∧ nat_lit 2 = nat_lit 2 ∧ x35.1.5.1 =
x35.1.5.1) ∧ Int.ofNat (0 : Nat) = Int.ofNat (0 : Nat) ∧ Int.ofNat (0 : Nat) = Int.ofNat (0 : Nat) ∧ Int.ofNat (0 : Nat) = Int.ofNat (0 : Nat) ∧ Int.ofNat (0 : Nat) = Int.ofNat (0
: Nat) ∧ Int.ofNat (0 : Nat) = Int.ofNat (0 : Nat) ∧ True) ∧ True) ∧ (True ∧ FlatL x35.1.3.2 ∧ x35.1.3.2 = x35.1.3.2) ∧ (True ∧ FlatL x35.1.4.2 ∧ x35.1.4.2 = x35.1.4.2) ∧ (True ∧
FlatL x35.1.5.2 ∧ x35.1.5.2 = x35.1.5.2) ∧ True) ∧ (∀ (x38 : PB), (∀ (x39 : PX), PH (PA.mk (SA.mk Bool.false (nat_lit 0) (nat_lit 2) x35.1.3.1 x35.1.3.2) (SA.mk Bool.false (nat_lit
0) (nat_lit 2) x35.1.4.1 x35.1.4.2) (SA.mk Bool.false (nat_lit 0) (nat_lit 2) x35.1.5.1 x35.1.5.2) (Int.ofNat (0 : Nat)) (Int.ofNat (0 : Nat)) (Int.ofNat (0 : Nat)) (Int.ofNat (0 :
Nat)) (Int.ofNat (0 : Nat))) x39 → PH (PA.mk (SA.mk Bool.false (0 : Nat) (nat_lit 2) x38.1.1 x38.1.2) (SA.mk Bool.false (0 : Nat) (nat_lit 2) x38.2.1 x38.2.2) (SA.mk Bool.false (0
: Nat) (nat_lit 2) x38.3.1 x38.3.2) (Int.ofNat (0 : Nat)) (Int.ofNat (0 : Nat)) (Int.ofNat (0 : Nat)) (Int.ofNat (0 : Nat)) (Int.ofNat (0 : Nat))) x39) ∧ (Bool.false = Bool.false →
List.length x38.1.2 = nat_lit 2) → ((Bool.false = Bool.true → (1 : Nat) ≤ List.length [Value.iface (1000000007 : Nat) (Value.int IntKind.i32 a.3)] ∧ ∀ (x40 : List Value), x40 =
lwin [Value.iface (1000000007 : Nat) (Value.int IntKind.i32 a.3)] (0 : Nat) (1 : Nat) → ((1 : Nat) = (0 : Nat) → ∃ (x41 : NnQ), ((okSt x41.1 ∧ (∀ (x42 : PX), PH (PA.mk (SA.mk
Bool.false (0 : Nat) (2 : Nat) x41.1.3.1 x41.1.3.2) (SA.mk Bool.false (0 : Nat) (2 : Nat) x41.1.4.1 x41.1.4.2) (SA.mk Bool.false (0 : Nat) (2 : Nat) x41.1.5.1 x41.1.5.2) (0 : Int)
(0 : Int) (0 : Int) (0 : Int) (0 : Int)) x42 → PH (PA.mk (SA.mk Bool.false (0 : Nat) (nat_lit 2) x41.2.1.1.1 x41.2.1.1.2) (SA.mk Bool.false (0 : Nat) (nat_lit 2) x41.2.1.2.1
x41.2.1.2.2) (SA.mk Bool.false (0 : Nat) (nat_lit 2) x41.2.1.3.1 x41.2.1.3.2) (Int.ofNat (0 : Nat)) (Int.ofNat (0 : Nat)) (Int.ofNat (0 : Nat)) (Int.ofNat (0 : Nat)) (Int.ofNat (0
: Nat))) x42) ∧ Sli (Value.int IntKind.i64) (1 : Nat) a.2.1 (0 : Nat) a.2.3 x41.2.2.1 x41.2.2.2 xs) ∧ okNw (NwA.mk x41.1.1 (PA.mk (SA.mk Bool.false (0 : Nat) x41.3 x41.4 x41.5)
(SA.mk Bool.false (0 : Nat) (2 : Nat) x41.6.1 x41.6.2) (SA.mk Bool.false (0 : Nat) (2 : Nat) x41.7.1 x41.7.2) (0 : Int) (0 : Int) (0 : Int) (0 : Int) (0 : Int)) a.2) ∧ x41.3 ≠
x41.1.1.2.3 ∧ x41.3 ≤ (1000 : Nat)) ∧ ((a.2.1 = a.2.1 ∧ a.2.2 = a.2.2 ∧ a.2.3 = a.2.3 ∧ a.2.4 = a.2.4) ∧ (0 : Nat) = (0 : Nat) ∧ (0 : Nat) = (0 : Nat) ∧ (0 : Nat) = (0 : Nat) ∧ (0
: Int) = (0 : Int) ∧ (0 : Int) = (0 : Int) ∧ (0 : Nat) = (0 : Nat) ∧ True) ∧ ((True ∧ FlatL a.2.5 ∧ a.2.5 = a.2.5) ∧ (True ∧ True ∧ (x41.1.1.1.1 = x35.1.1.1.1 ∧ x41.1.1.1.2 =
x35.1.1.1.2 ∧ x41.1.1.1.3 = x35.1.1.1.3 ∧ x41.1.1.1.4 = x35.1.1.1.4) ∧ x41.1.2.1 = x35.1.2.1 ∧ x41.1.2.2 = x35.1.2.2 ∧ x41.1.2.3 = x35.1.2.3 ∧ x41.1.2.4 = x35.1.2.4 ∧ x41.1.2.5 =
x35.1.2.5 ∧ x41.1.2.6 = x35.1.2.6 ∧ x41.1.2.7 = x35.1.2.7 ∧ x41.1.2.8 = x35.1.2.8 ∧ True ∧ True ∧ (x41.1.1.2.1 = x35.1.1.2.1 ∧ x41.1.1.2.2 = x35.1.1.2.2 ∧ x41.1.1.2.3 = x35.1.1.2.3
∧ x41.1.1.2.4 = x35.1.1.2.4) ∧ True) ∧ (True ∧ FlatL x41.1.1.1.5 ∧ x41.1.1.1.5 = x35.1.1.1.5) ∧ (True ∧ FlatL x41.1.1.2.5 ∧ x41.1.1.2.5 = x35.1.1.2.5) ∧ (True ∧ FlatL x41.1.3.2 ∧
x41.1.3.2 = x35.1.3.2) ∧ (True ∧ FlatL x41.1.4.2 ∧ x41.1.4.2 = x35.1.4.2) ∧ (True ∧ FlatL x41.1.5.2 ∧ x41.1.5.2 = x35.1.5.2) ∧ (True ∧ (Bool.false = Bool.false ∧ nat_lit 0 =
nat_lit 0 ∧ nat_lit 2 = nat_lit 2 ∧ x41.1.3.1 = x35.1.3.1) ∧ (Bool.false = Bool.false ∧ nat_lit 0 = nat_lit 0 ∧ nat_lit 2 = nat_lit 2 ∧ x41.1.4.1 = x35.1.4.1) ∧ (Bool.false =
Bool.false ∧ nat_lit 0 = nat_lit 0 ∧ nat_lit 2 = nat_lit 2 ∧ x41.1.5.1 = x35.1.5.1) ∧ Int.ofNat (0 : Nat) = Int.ofNat (0 : Nat) ∧ Int.ofNat (0 : Nat) = Int.ofNat (0 : Nat) ∧
Int.ofNat (0 : Nat) = Int.ofNat (0 : Nat) ∧ Int.ofNat (0 : Nat) = Int.ofNat (0 : Nat) ∧ Int.ofNat (0 : Nat) = Int.ofNat (0 : Nat) ∧ True) ∧ (True ∧ ((0 : Nat) = (0 : Nat) ∧ (1 :
Nat) = (1 : Nat) ∧ (1 : Nat) = (1 : Nat)) ∧ True) ∧ (True ∧ (0 : Nat) = (0 : Nat) ∧ (Bool.false = Bool.false ∧ nat_lit 0 = nat_lit 0 ∧ nat_lit 2 = nat_lit 2 ∧ x41.2.1.1.1 =
x35.2.1.1.1) ∧ (Bool.false = Bool.false ∧ nat_lit 0 = nat_lit 0 ∧ nat_lit 2 = nat_lit 2 ∧ x41.2.1.2.1 = x35.2.1.2.1) ∧ (Bool.false = Bool.false ∧ nat_lit 0 = nat_lit 0 ∧ nat_lit 2
= nat_lit 2 ∧ x41.2.1.3.1 = x35.2.1.3.1) ∧ Int.ofNat (0 : Nat) = Int.ofNat (0 : Nat) ∧ Int.ofNat (0 : Nat) = Int.ofNat (0 : Nat) ∧ Int.ofNat (0 : Nat) = Int.ofNat (0 : Nat) ∧
Int.ofNat (0 : Nat) = Int.ofNat (0 : Nat) ∧ Int.ofNat (0 : Nat) = Int.ofNat (0 : Nat) ∧ (a.2.1 = a.2.1 ∧ nat_lit 0 = nat_lit 0 ∧ a.2.3 = a.2.3 ∧ x41.2.2.1 = x35.2.2.1) ∧ True) ∧
(x41.2.1.1.1 = x35.2.1.1.1 ∧ FlatL x41.2.1.1.2 ∧ x41.2.1.1.2 = x35.2.1.1.2) ∧ (x41.2.1.2.1 = x35.2.1.2.1 ∧ FlatL x41.2.1.2.2 ∧ x41.2.1.2.2 = x35.2.1.2.2) ∧ (x41.2.1.3.1 =
x35.2.1.3.1 ∧ FlatL x41.2.1.3.2 ∧ x41.2.1.3.2 = x35.2.1.3.2) ∧ (x41.2.2.1 = x35.2.2.1 ∧ FlatL x41.2.2.2 ∧ x41.2.2.2 = x35.2.2.2) ∧ (True ∧ False ∧ (Bool.false = Bool.false ∧
nat_lit 0 = (0 : Nat) ∧ nat_lit 2 = nat_lit 2 ∧ x41.6.1 = x38.2.1) ∧ (Bool.false = Bool.false ∧ nat_lit 0 = (0 : Nat) ∧ nat_lit 2 = nat_lit 2 ∧ x41.7.1 = x38.3.1) ∧ Int.ofNat (0 :
Nat) = Int.ofNat (0 : Nat) ∧ Int.ofNat (0 : Nat) = Int.ofNat (0 : Nat) ∧ Int.ofNat (0 : Nat) = Int.ofNat (0 : Nat) ∧ Int.ofNat (0 : Nat) = Int.ofNat (0 : Nat) ∧ Int.ofNat (0 : Nat)
= Int.ofNat (0 : Nat) ∧ True) ∧ (FlatL x41.5 ∧ True) ∧ (x41.6.1 = x38.2.1 ∧ FlatL x41.6.2 ∧ x41.6.2 = x38.2.2) ∧ (x41.7.1 = x38.3.1 ∧ FlatL x41.7.2 ∧ x41.7.2 = x38.3.2) ∧ True) ∧
True) ∧ ((1 : Nat) ≠ (0 : Nat) → Few (1 : Nat) (4 : Nat) ∧ ∃ (x43 : NnQ), ((okSt x43.1 ∧ (∀ (x44 : PX), PH (PA.mk (SA.mk Bool.false (0 : Nat) (2 : Nat) x43.1.3.1 x43.1.3.2) (SA.mk
Bool.false (0 : Nat) (2 : Nat) x43.1.4.1 x43.1.4.2) (SA.mk Bool.false (0 : Nat) (2 : Nat) x43.1.5.1 x43.1.5.2) (0 : Int) (0 : Int) (0 : Int) (0 : Int) (0 : Int)) x44 → PH (PA.mk
(SA.mk Bool.false (0 : Nat) (nat_lit 2) x43.2.1.1.1 x43.2.1.1.2) (SA.mk Bool.false (0 : Nat) (nat_lit 2) x43.2.1.2.1 x43.2.1.2.2) (SA.mk Bool.false (0 : Nat) (nat_lit 2)
x43.2.1.3.1 x43.2.1.3.2) (Int.ofNat (0 : Nat)) (Int.ofNat (0 : Nat)) (Int.ofNat (0 : Nat)) (Int.ofNat (0 : Nat)) (Int.ofNat (0 : Nat))) x44) ∧ Sli (Value.int IntKind.i64) (1 : Nat)
a.2.1 (0 : Nat) a.2.3 x43.2.2.1 x43.2.2.2 xs) ∧ okNw (NwA.mk x43.1.1 (PA.mk (SA.mk Bool.false (0 : Nat) x43.3 x43.4 x43.5) (SA.mk Bool.false (0 : Nat) (2 : Nat) x43.6.1 x43.6.2)
(SA.mk Bool.false (0 : Nat) (2 : Nat) x43.7.1 x43.7.2) (0 : Int) (0 : Int) (0 : Int) (0 : Int) (0 : Int)) a.2) ∧ x43.3 ≠ x43.1.1.2.3 ∧ x43.3 ≤ (1000 : Nat)) ∧ ((a.2.1 = a.2.1 ∧
a.2.2 = a.2.2 ∧ a.2.3 = a.2.3 ∧ a.2.4 = a.2.4) ∧ (0 : Nat) = (0 : Nat) ∧ (0 : Nat) = (0 : Nat) ∧ (0 : Nat) = (0 : Nat) ∧ (0 : Int) = (0 : Int) ∧ (0 : Int) = (0 : Int) ∧ (0 : Nat) =
(0 : Nat) ∧ True) ∧ ((True ∧ FlatL a.2.5 ∧ a.2.5 = a.2.5) ∧ (True ∧ True ∧ (x43.1.1.1.1 = x35.1.1.1.1 ∧ x43.1.1.1.2 = x35.1.1.1.2 ∧ x43.1.1.1.3 = x35.1.1.1.3 ∧ x43.1.1.1.4 =
x35.1.1.1.4) ∧ x43.1.2.1 = x35.1.2.1 ∧ x43.1.2.2 = x35.1.2.2 ∧ x43.1.2.3 = x35.1.2.3 ∧ x43.1.2.4 = x35.1.2.4 ∧ x43.1.2.5 = x35.1.2.5 ∧ x43.1.2.6 = x35.1.2.6 ∧ x43.1.2.7 = x35.1.2.7
∧ x43.1.2.8 = x35.1.2.8 ∧ True ∧ True ∧ (x43.1.1.2.1 = x35.1.1.2.1 ∧ x43.1.1.2.2 = x35.1.1.2.2 ∧ x43.1.1.2.3 = x35.1.1.2.3 ∧ x43.1.1.2.4 = x35.1.1.2.4) ∧ True) ∧ (True ∧ FlatL
x43.1.1.1.5 ∧ x43.1.1.1.5 = x35.1.1.1.5) ∧ (True ∧ FlatL x43.1.1.2.5 ∧ x43.1.1.2.5 = x35.1.1.2.5) ∧ (True ∧ FlatL x43.1.3.2 ∧ x43.1.3.2 = x35.1.3.2) ∧ (True ∧ FlatL x43.1.4.2 ∧
x43.1.4.2 = x35.1.4.2) ∧ (True ∧ FlatL x43.1.5.2 ∧ x43.1.5.2 = x35.1.5.2) ∧ (True ∧ (Bool.false = Bool.false ∧ nat_lit 0 = nat_lit 0 ∧ nat_lit 2 = nat_lit 2 ∧ x43.1.3.1 =
x35.1.3.1) ∧ (Bool.false = Bool.false ∧ nat_lit 0 = nat_lit 0 ∧ nat_lit 2 = nat_lit 2 ∧ x43.1.4.1 = x35.1.4.1) ∧ (Bool.false = Bool.false ∧ nat_lit 0 = nat_lit 0 ∧ nat_lit 2 =
nat_lit 2 ∧ x43.1.5.1 = x35.1.5.1) ∧ Int.ofNat (0 : Nat) = Int.ofNat (0 : Nat) ∧ Int.ofNat (0 : Nat) = Int.ofNat (0 : Nat) ∧ Int.ofNat (0 : Nat) = Int.ofNat (0 : Nat) ∧ Int.ofNat
(0 : Nat) = Int.ofNat (0 : Nat) ∧ Int.ofNat (0 : Nat) = Int.ofNat (0 : Nat) ∧ True) ∧ (True ∧ ((0 : Nat) = (0 : Nat) ∧ (1 : Nat) = (1 : Nat) ∧ (1 : Nat) = (1 : Nat)) ∧ True) ∧
(True ∧ (0 : Nat) = (0 : Nat) ∧ (Bool.false = Bool.false ∧ nat_lit 0 = nat_lit 0 ∧ nat_lit 2 = nat_lit 2 ∧ x43.2.1.1.1 = x35.2.1.1.1) ∧ (Bool.false = Bool.false ∧ nat_lit 0 =
nat_lit 0 ∧ nat_lit 2 = nat_lit 2 ∧ x43.2.1.2.1 = x35.2.1.2.1) ∧ (Bool.false = Bool.false ∧ nat_lit 0 = nat_lit 0 ∧ nat_lit 2 = nat_lit 2 ∧ x43.2.1.3.1 = x35.2.1.3.1) ∧ Int.ofNat
(0 : Nat) = Int.ofNat (0 : Nat) ∧ Int.ofNat (0 : Nat) = Int.ofNat (0 : Nat) ∧ Int.ofNat (0 : Nat) = Int.ofNat (0 : Nat) ∧ Int.ofNat (0 : Nat) = Int.ofNat (0 : Nat) ∧ Int.ofNat (0 :
Nat) = Int.ofNat (0 : Nat) ∧ (a.2.1 = a.2.1 ∧ nat_lit 0 = nat_lit 0 ∧ a.2.3 = a.2.3 ∧ x43.2.2.1 = x35.2.2.1) ∧ True) ∧ (x43.2.1.1.1 = x35.2.1.1.1 ∧ FlatL x43.2.1.1.2 ∧ x43.2.1.1.2
= x35.2.1.1.2) ∧ (x43.2.1.2.1 = x35.2.1.2.1 ∧ FlatL x43.2.1.2.2 ∧ x43.2.1.2.2 = x35.2.1.2.2) ∧ (x43.2.1.3.1 = x35.2.1.3.1 ∧ FlatL x43.2.1.3.2 ∧ x43.2.1.3.2 = x35.2.1.3.2) ∧
(x43.2.2.1 = x35.2.2.1 ∧ FlatL x43.2.2.2 ∧ x43.2.2.2 = x35.2.2.2) ∧ (True ∧ ((0 : Nat) = (0 : Nat) ∧ x43.3 = (1 : Nat) ∧ x43.4 = (1 : Nat)) ∧ (Bool.false = Bool.false ∧ nat_lit 0 =
(0 : Nat) ∧ nat_lit 2 = nat_lit 2 ∧ x43.6.1 = x38.2.1) ∧ (Bool.false = Bool.false ∧ nat_lit 0 = (0 : Nat) ∧ nat_lit 2 = nat_lit 2 ∧ x43.7.1 = x38.3.1) ∧ Int.ofNat (0 : Nat) =
Int.ofNat (0 : Nat) ∧ Int.ofNat (0 : Nat) = Int.ofNat (0 : Nat) ∧ Int.ofNat (0 : Nat) = Int.ofNat (0 : Nat) ∧ Int.ofNat (0 : Nat) = Int.ofNat (0 : Nat) ∧ Int.ofNat (0 : Nat) =
Int.ofNat (0 : Nat) ∧ True) ∧ (x43.4 = (1 : Nat) ∧ FlatL x43.5 ∧ x43.5 = x40) ∧ (x43.6.1 = x38.2.1 ∧ FlatL x43.6.2 ∧ x43.6.2 = x38.2.2) ∧ (x43.7.1 = x38.3.1 ∧ FlatL x43.7.2 ∧
x43.7.2 = x38.3.2) ∧ True) ∧ True)) ∧ (Bool.false = Bool.false → (1 : Nat) ≤ List.length [Value.iface (1000000007 : Nat) (Value.int IntKind.i32 a.3)] ∧ ∀ (x45 : List Value), x45 =
lwin [Value.iface (1000000007 : Nat) (Value.int IntKind.i32 a.3)] (0 : Nat) (1 : Nat) → ((0 : Nat) = (0 : Nat) ∧ List.length x38.1.2 = nat_lit 2 * (1 : Nat) ∧ x38.1.1 = x38.1.1 ∧
nat_lit 2 ≤ x38.1.1 ∧ Few (nat_lit 2 + (1 : Nat)) (4 : Nat) ∧ lall oneK x45 = Bool.true) ∧ ∀ (x46 x47 : Nat), x46 = nat_lit 2 + (1 : Nat) → (x47 = if x46 ≤ RW.k (PB.b1 x38) then
x38.1.1 else x46) → ∃ (x48 : NnQ), ((okSt x48.1 ∧ (∀ (x49 : PX), PH (PA.mk (SA.mk Bool.false (0 : Nat) (2 : Nat) x48.1.3.1 x48.1.3.2) (SA.mk Bool.false (0 : Nat) (2 : Nat)
x48.1.4.1 x48.1.4.2) (SA.mk Bool.false (0 : Nat) (2 : Nat) x48.1.5.1 x48.1.5.2) (0 : Int) (0 : Int) (0 : Int) (0 : Int) (0 : Int)) x49 → PH (PA.mk (SA.mk Bool.false (0 : Nat)
(nat_lit 2) x48.2.1.1.1 x48.2.1.1.2) (SA.mk Bool.false (0 : Nat) (nat_lit 2) x48.2.1.2.1 x48.2.1.2.2) (SA.mk Bool.false (0 : Nat) (nat_lit 2) x48.2.1.3.1 x48.2.1.3.2) (Int.ofNat (0
: Nat)) (Int.ofNat (0 : Nat)) (Int.ofNat (0 : Nat)) (Int.ofNat (0 : Nat)) (Int.ofNat (0 : Nat))) x49) ∧ Sli (Value.int IntKind.i64) (1 : Nat) a.2.1 (0 : Nat) a.2.3 x48.2.2.1
x48.2.2.2 xs) ∧ okNw (NwA.mk x48.1.1 (PA.mk (SA.mk Bool.false (0 : Nat) x48.3 x48.4 x48.5) (SA.mk Bool.false (0 : Nat) (2 : Nat) x48.6.1 x48.6.2) (SA.mk Bool.false (0 : Nat) (2 :
Nat) x48.7.1 x48.7.2) (0 : Int) (0 : Int) (0 : Int) (0 : Int) (0 : Int)) a.2) ∧ x48.3 ≠ x48.1.1.2.3 ∧ x48.3 ≤ (1000 : Nat)) ∧ ((a.2.1 = a.2.1 ∧ a.2.2 = a.2.2 ∧ a.2.3 = a.2.3 ∧
a.2.4 = a.2.4) ∧ (0 : Nat) = (0 : Nat) ∧ (0 : Nat) = (0 : Nat) ∧ (0 : Nat) = (0 : Nat) ∧ (0 : Int) = (0 : Int) ∧ (0 : Int) = (0 : Int) ∧ (0 : Nat) = (0 : Nat) ∧ True) ∧ ((True ∧
FlatL a.2.5 ∧ a.2.5 = a.2.5) ∧ (True ∧ True ∧ (x48.1.1.1.1 = x35.1.1.1.1 ∧ x48.1.1.1.2 = x35.1.1.1.2 ∧ x48.1.1.1.3 = x35.1.1.1.3 ∧ x48.1.1.1.4 = x35.1.1.1.4) ∧ x48.1.2.1 =
x35.1.2.1 ∧ x48.1.2.2 = x35.1.2.2 ∧ x48.1.2.3 = x35.1.2.3 ∧ x48.1.2.4 = x35.1.2.4 ∧ x48.1.2.5 = x35.1.2.5 ∧ x48.1.2.6 = x35.1.2.6 ∧ x48.1.2.7 = x35.1.2.7 ∧ x48.1.2.8 = x35.1.2.8 ∧
True ∧ True ∧ (x48.1.1.2.1 = x35.1.1.2.1 ∧ x48.1.1.2.2 = x35.1.1.2.2 ∧ x48.1.1.2.3 = x35.1.1.2.3 ∧ x48.1.1.2.4 = x35.1.1.2.4) ∧ True) ∧ (True ∧ FlatL x48.1.1.1.5 ∧ x48.1.1.1.5 =
x35.1.1.1.5) ∧ (True ∧ FlatL x48.1.1.2.5 ∧ x48.1.1.2.5 = x35.1.1.2.5) ∧ (True ∧ FlatL x48.1.3.2 ∧ x48.1.3.2 = x35.1.3.2) ∧ (True ∧ FlatL x48.1.4.2 ∧ x48.1.4.2 = x35.1.4.2) ∧ (True
∧ FlatL x48.1.5.2 ∧ x48.1.5.2 = x35.1.5.2) ∧ (True ∧ (Bool.false = Bool.false ∧ nat_lit 0 = nat_lit 0 ∧ nat_lit 2 = nat_lit 2 ∧ x48.1.3.1 = x35.1.3.1) ∧ (Bool.false = Bool.false ∧
nat_lit 0 = nat_lit 0 ∧ nat_lit 2 = nat_lit 2 ∧ x48.1.4.1 = x35.1.4.1) ∧ (Bool.false = Bool.false ∧ nat_lit 0 = nat_lit 0 ∧ nat_lit 2 = nat_lit 2 ∧ x48.1.5.1 = x35.1.5.1) ∧
Int.ofNat (0 : Nat) = Int.ofNat (0 : Nat) ∧ Int.ofNat (0 : Nat) = Int.ofNat (0 : Nat) ∧ Int.ofNat (0 : Nat) = Int.ofNat (0 : Nat) ∧ Int.ofNat (0 : Nat) = Int.ofNat (0 : Nat) ∧
Int.ofNat (0 : Nat) = Int.ofNat (0 : Nat) ∧ True) ∧ (True ∧ ((0 : Nat) = (0 : Nat) ∧ (1 : Nat) = (1 : Nat) ∧ (1 : Nat) = (1 : Nat)) ∧ True) ∧ (True ∧ (0 : Nat) = (0 : Nat) ∧
(Bool.false = Bool.false ∧ nat_lit 0 = nat_lit 0 ∧ nat_lit 2 = nat_lit 2 ∧ x48.2.1.1.1 = x35.2.1.1.1) ∧ (Bool.false = Bool.false ∧ nat_lit 0 = nat_lit 0 ∧ nat_lit 2 = nat_lit 2 ∧
x48.2.1.2.1 = x35.2.1.2.1) ∧ (Bool.false = Bool.false ∧ nat_lit 0 = nat_lit 0 ∧ nat_lit 2 = nat_lit 2 ∧ x48.2.1.3.1 = x35.2.1.3.1) ∧ Int.ofNat (0 : Nat) = Int.ofNat (0 : Nat) ∧
Int.ofNat (0 : Nat) = Int.ofNat (0 : Nat) ∧ Int.ofNat (0 : Nat) = Int.ofNat (0 : Nat) ∧ Int.ofNat (0 : Nat) = Int.ofNat (0 : Nat) ∧ Int.ofNat (0 : Nat) = Int.ofNat (0 : Nat) ∧
(a.2.1 = a.2.1 ∧ nat_lit 0 = nat_lit 0 ∧ a.2.3 = a.2.3 ∧ x48.2.2.1 = x35.2.2.1) ∧ True) ∧ (x48.2.1.1.1 = x35.2.1.1.1 ∧ FlatL x48.2.1.1.2 ∧ x48.2.1.1.2 = x35.2.1.1.2) ∧ (x48.2.1.2.1
= x35.2.1.2.1 ∧ FlatL x48.2.1.2.2 ∧ x48.2.1.2.2 = x35.2.1.2.2) ∧ (x48.2.1.3.1 = x35.2.1.3.1 ∧ FlatL x48.2.1.3.2 ∧ x48.2.1.3.2 = x35.2.1.3.2) ∧ (x48.2.2.1 = x35.2.2.1 ∧ FlatL
x48.2.2.2 ∧ x48.2.2.2 = x35.2.2.2) ∧ (True ∧ ((0 : Nat) = (0 : Nat) ∧ x48.3 = x46 ∧ x48.4 = x47) ∧ (Bool.false = Bool.false ∧ nat_lit 0 = (0 : Nat) ∧ nat_lit 2 = nat_lit 2 ∧
x48.6.1 = x38.2.1) ∧ (Bool.false = Bool.false ∧ nat_lit 0 = (0 : Nat) ∧ nat_lit 2 = nat_lit 2 ∧ x48.7.1 = x38.3.1) ∧ Int.ofNat (0 : Nat) = Int.ofNat (0 : Nat) ∧ Int.ofNat (0 : Nat)
= Int.ofNat (0 : Nat) ∧ Int.ofNat (0 : Nat) = Int.ofNat (0 : Nat) ∧ Int.ofNat (0 : Nat) = Int.ofNat (0 : Nat) ∧ Int.ofNat (0 : Nat) = Int.ofNat (0 : Nat) ∧ True) ∧ (x48.4 = x47 ∧
FlatL x48.5 ∧ x48.5 = x38.1.2 ++ x45) ∧ (x48.6.1 = x38.2.1 ∧ FlatL x48.6.2 ∧ x48.6.2 = x38.2.2) ∧ (x48.7.1 = x38.3.1 ∧ FlatL x48.7.2 ∧ x48.7.2 = x38.3.2) ∧ True) ∧ True)) ∧ ∀ (x50
: NnQ), (okSt x50.1 ∧ (∀ (x51 : PX), PH (PA.mk (SA.mk Bool.false (0 : Nat) (2 : Nat) x50.1.3.1 x50.1.3.2) (SA.mk Bool.false (0 : Nat) (2 : Nat) x50.1.4.1 x50.1.4.2) (SA.mk
Bool.false (0 : Nat) (2 : Nat) x50.1.5.1 x50.1.5.2) (0 : Int) (0 : Int) (0 : Int) (0 : Int) (0 : Int)) x51 → PH (PA.mk (SA.mk Bool.false (0 : Nat) (nat_lit 2) x50.2.1.1.1
x50.2.1.1.2) (SA.mk Bool.false (0 : Nat) (nat_lit 2) x50.2.1.2.1 x50.2.1.2.2) (SA.mk Bool.false (0 : Nat) (nat_lit 2) x50.2.1.3.1 x50.2.1.3.2) (Int.ofNat (0 : Nat)) (Int.ofNat (0 :
Nat)) (Int.ofNat (0 : Nat)) (Int.ofNat (0 : Nat)) (Int.ofNat (0 : Nat))) x51) ∧ Sli (Value.int IntKind.i64) (1 : Nat) a.2.1 (0 : Nat) a.2.3 x50.2.2.1 x50.2.2.2 xs) ∧ okNw (NwA.mk
x50.1.1 (PA.mk (SA.mk Bool.false (0 : Nat) x50.3 x50.4 x50.5) (SA.mk Bool.false (0 : Nat) (2 : Nat) x50.6.1 x50.6.2) (SA.mk Bool.false (0 : Nat) (2 : Nat) x50.7.1 x50.7.2) (0 :
Int) (0 : Int) (0 : Int) (0 : Int) (0 : Int)) a.2) ∧ x50.3 ≠ x50.1.1.2.3 ∧ x50.3 ≤ (1000 : Nat) → (True ∧ (rlF x50.1.1 ∧ okNw (NwA.mk x50.1.1 (PA.mk (SA.mk Bool.false (0 : Nat)
x50.3 x50.4 x50.5) (SA.mk Bool.false (nat_lit 0) (nat_lit 2) x50.6.1 x50.6.2) (SA.mk Bool.false (nat_lit 0) (nat_lit 2) x50.7.1 x50.7.2) (Int.ofNat (0 : Nat)) (Int.ofNat (0 : Nat))
(Int.ofNat (0 : Nat)) (Int.ofNat (0 : Nat)) (Int.ofNat (0 : Nat))) a.2) ∧ (x50.3 ≤ (1000 : Nat) ∧ nat_lit 2 ≤ (1000 : Nat) ∧ nat_lit 2 ≤ (1000 : Nat)) ∧ (∃ (x52 : List Int), Sli
(Value.int IntKind.i64) (1 : Nat) a.2.1 a.2.2 a.2.3 a.2.4 a.2.5 x52) ∧ a.2.3 ≤ (1000 : Nat)) ∧ x50.3 ≠ x50.1.1.2.3) ∧ (((0 : Nat) = (0 : Nat) ∧ ((Bool.false = Bool.false ∧ nat_lit
0 = (0 : Nat) ∧ x50.3 = x50.3 ∧ x50.4 = x50.4) ∧ (Bool.false = Bool.false ∧ nat_lit 0 = nat_lit 0 ∧ nat_lit 2 = nat_lit 2 ∧ x50.6.1 = x50.6.1) ∧ (Bool.false = Bool.false ∧ nat_lit
0 = nat_lit 0 ∧ nat_lit 2 = nat_lit 2 ∧ x50.7.1 = x50.7.1) ∧ Int.ofNat (0 : Nat) = Int.ofNat (0 : Nat) ∧ Int.ofNat (0 : Nat) = Int.ofNat (0 : Nat) ∧ Int.ofNat (0 : Nat) = Int.ofNat
(0 : Nat) ∧ Int.ofNat (0 : Nat) = Int.ofNat (0 : Nat) ∧ Int.ofNat (0 : Nat) = Int.ofNat (0 : Nat) ∧ True) ∧ (a.2.1 = a.2.1 ∧ a.2.2 = a.2.2 ∧ a.2.3 = a.2.3 ∧ a.2.4 = a.2.4) ∧ True)
∧ (True ∧ True ∧ (x50.1.1.1.1 = x50.1.1.1.1 ∧ x50.1.1.1.2 = x50.1.1.1.2 ∧ x50.1.1.1.3 = x50.1.1.1.3 ∧ x50.1.1.1.4 = x50.1.1.1.4) ∧ True ∧ True ∧ True ∧ True ∧ True ∧ True ∧ True ∧
True ∧ True ∧ True ∧ (x50.1.1.2.1 = x50.1.1.2.1 ∧ x50.1.1.2.2 = x50.1.1.2.2 ∧ x50.1.1.2.3 = x50.1.1.2.3 ∧ x50.1.1.2.4 = x50.1.1.2.4) ∧ True) ∧ (True ∧ FlatL x50.1.1.1.5 ∧
x50.1.1.1.5 = x50.1.1.1.5) ∧ (True ∧ FlatL x50.1.1.2.5 ∧ x50.1.1.2.5 = x50.1.1.2.5) ∧ (True ∧ FlatL x50.5 ∧ x50.5 = x50.5) ∧ (True ∧ FlatL x50.6.2 ∧ x50.6.2 = x50.6.2) ∧ (True ∧
FlatL x50.7.2 ∧ x50.7.2 = x50.7.2) ∧ (True ∧ FlatL a.2.5 ∧ a.2.5 = a.2.5) ∧ True) ∧ (∀ (x53 : Unit), True → (True ∧ (∃ (x54 : PX), PH (PA.mk (SA.mk Bool.false (nat_lit 0) (nat_lit
2) x50.2.1.1.1 x50.2.1.1.2) (SA.mk Bool.false (nat_lit 0) (nat_lit 2) x50.2.1.2.1 x50.2.1.2.2) (SA.mk Bool.false (nat_lit 0) (nat_lit 2) x50.2.1.3.1 x50.2.1.3.2) (Int.ofNat (0 :
Nat)) (Int.ofNat (0 : Nat)) (Int.ofNat (0 : Nat)) (Int.ofNat (0 : Nat)) (Int.ofNat (0 : Nat))) x54) ∧ nat_lit 2 ≤ (1000 : Nat) ∧ nat_lit 2 ≤ (1000 : Nat) ∧ nat_lit 2 ≤ (1000 :
Nat)) ∧ ((((Bool.false = Bool.false ∧ nat_lit 0 = nat_lit 0 ∧ nat_lit 2 = nat_lit 2 ∧ x50.2.1.1.1 = x50.2.1.1.1) ∧ (Bool.false = Bool.false ∧ nat_lit 0 = nat_lit 0 ∧ nat_lit 2 =
nat_lit 2 ∧ x50.2.1.2.1 = x50.2.1.2.1) ∧ (Bool.false = Bool.false ∧ nat_lit 0 = nat_lit 0 ∧ nat_lit 2 = nat_lit 2 ∧ x50.2.1.3.1 = x50.2.1.3.1) ∧ Int.ofNat (0 : Nat) = Int.ofNat (0
: Nat) ∧ Int.ofNat (0 : Nat) = Int.ofNat (0 : Nat) ∧ Int.ofNat (0 : Nat) = Int.ofNat (0 : Nat) ∧ Int.ofNat (0 : Nat) = Int.ofNat (0 : Nat) ∧ Int.ofNat (0 : Nat) = Int.ofNat (0 :
Nat) ∧ True) ∧ True) ∧ (True ∧ FlatL x50.2.1.1.2 ∧ x50.2.1.1.2 = x50.2.1.1.2) ∧ (True ∧ FlatL x50.2.1.2.2 ∧ x50.2.1.2.2 = x50.2.1.2.2) ∧ (True ∧ FlatL x50.2.1.3.2 ∧ x50.2.1.3.2 =
x50.2.1.3.2) ∧ True) ∧ (∀ (x55 : PB), (∀ (x56 : PX), PH (PA.mk (SA.mk Bool.false (nat_lit 0) (nat_lit 2) x50.2.1.1.1 x50.2.1.1.2) (SA.mk Bool.false (nat_lit 0) (nat_lit 2)
x50.2.1.2.1 x50.2.1.2.2) (SA.mk Bool.false (nat_lit 0) (nat_lit 2) x50.2.1.3.1 x50.2.1.3.2) (Int.ofNat (0 : Nat)) (Int.ofNat (0 : Nat)) (Int.ofNat (0 : Nat)) (Int.ofNat (0 : Nat))
(Int.ofNat (0 : Nat))) x56 → PH (PA.mk (SA.mk Bool.false (0 : Nat) (nat_lit 2) x55.1.1 x55.1.2) (SA.mk Bool.false (0 : Nat) (nat_lit 2) x55.2.1 x55.2.2) (SA.mk Bool.false (0 : Nat)
(nat_lit 2) x55.3.1 x55.3.2) (Int.ofNat (0 : Nat)) (Int.ofNat (0 : Nat)) (Int.ofNat (0 : Nat)) (Int.ofNat (0 : Nat)) (Int.ofNat (0 : Nat))) x56) ∧ (Bool.false = Bool.false →
List.length x55.1.2 = nat_lit 2) → (True ∧ (∃ (x57 : List Int), Sli (Value.int IntKind.i64) (1 : Nat) a.2.1 (nat_lit 0) a.2.3 x50.2.2.1 x50.2.2.2 x57) ∧ a.2.3 ≤ (1000 : Nat)) ∧
(((a.2.1 = a.2.1 ∧ nat_lit 0 = nat_lit 0 ∧ a.2.3 = a.2.3 ∧ x50.2.2.1 = x50.2.2.1) ∧ True) ∧ (True ∧ FlatL x50.2.2.2 ∧ x50.2.2.2 = x50.2.2.2) ∧ True) ∧ (∀ (x58 : RW), (∀ (x59 : List
Int), Sli (Value.int IntKind.i64) (1 : Nat) a.2.1 (nat_lit 0) a.2.3 x50.2.2.1 x50.2.2.2 x59 → Sli (Value.int IntKind.i64) (1 : Nat) a.2.1 (0 : Nat) a.2.3 x58.1 x58.2 x59) → ((True
∧ True ∧ True) ∧ (True ∧ True ∧ True) ∧ (True ∧ True ∧ True) ∧ (W_G_noneA_0 a x50 = W_G_noneA_0 a x50 ∧ W_G_noneA_0 a x50 = W_G_noneA_0 a x50 ∧ True) ∧ True ∧ True ∧ True ∧ True ∧
True ∧ (True ∧ True) ∧ (True ∧ True) ∧ (True ∧ True) ∧ (W_G_noneA_0 a x50 = W_G_noneA_0 a x50 ∧ True) ∧ True ∧ True ∧ True ∧ True) ∧ (True ∧ True ∧ True ∧ (True ∧ True) ∧
(W_G_noneA_1 a x55 x58 = W_G_noneA_1 a x55 x58 ∧ True) ∧ (True ∧ True) ∧ (W_G_noneA_1 a x55 x58 = W_G_noneA_1 a x55 x58 ∧ True) ∧ True ∧ True ∧ True ∧ True) ∧ ((0 : Int) ≤ (0 :
Int) ∧ (0 : Int) < (↑a.2.3 : Int)) ∧ ∀ (x60 : Nat), x60 = (0 : Nat) → ∃ (x61 : Int), Rd x58.2 (Nat.add x60 (0 : Nat)) (Value.int IntKind.i64 x61) ∧ ∀ (x62 : Int), x62 =
IntKind.wrap IntKind.i64 (x61 + (1 : Int)) → ((0 : Int) ≤ (0 : Int) ∧ (0 : Int) < (↑a.2.3 : Int)) ∧ ∀ (x63 : Nat), x63 = (0 : Nat) → x63 + (1 : Nat) ≤ List.length x58.2 ∧ ∀ (x64 :
List Value), x64 = lput x58.2 x63 [Value.iface (1000000007 : Nat) (Value.int IntKind.i64 x62)] → ((0 : Int) ≤ (0 : Int) ∧ (0 : Int) < (↑(nat_lit 2) : Int)) ∧ ∀ (x65 : Nat), x65 =
(0 : Nat) → ∃ (x66 : Int), Rd x55.1.2 (Nat.add x65 (0 : Nat)) (Value.int IntKind.i32 x66) ∧ ∀ (x67 : Int), x67 = IntKind.wrap IntKind.i32 (x66 + (1 : Int)) → ((0 : Int) ≤ (0 : Int)
∧ (0 : Int) < (↑(nat_lit 2) : Int)) ∧ ∀ (x68 : Nat), x68 = (0 : Nat) → x68 + (1 : Nat) ≤ List.length x55.1.2 ∧ ∀ (x69 : List Value), x69 = lput x55.1.2 x68 [Value.iface (1000000007
: Nat) (Value.int IntKind.i32 x67)] → (True ∧ (∃ (x70 : PX), PH (PA.mk (SA.mk Bool.false (nat_lit 0) (nat_lit 2) x50.2.1.1.1 x50.2.1.1.2) (SA.mk Bool.false (nat_lit 0) (nat_lit 2)
x50.2.1.2.1 x50.2.1.2.2) (SA.mk Bool.false (nat_lit 0) (nat_lit 2) x50.2.1.3.1 x50.2.1.3.2) (Int.ofNat (0 : Nat)) (Int.ofNat (0 : Nat)) (Int.ofNat (0 : Nat)) (Int.ofNat (0 : Nat))
(Int.ofNat (0 : Nat))) x70) ∧ nat_lit 2 ≤ (1000 : Nat) ∧ nat_lit 2 ≤ (1000 : Nat) ∧ nat_lit 2 ≤ (1000 : Nat)) ∧ ((((Bool.false = Bool.false ∧ nat_lit 0 = nat_lit 0 ∧ nat_lit 2 =
nat_lit 2 ∧ x50.2.1.1.1 = x50.2.1.1.1) ∧ (Bool.false = Bool.false ∧ nat_lit 0 = nat_lit 0 ∧ nat_lit 2 = nat_lit 2 ∧ x50.2.1.2.1 = x50.2.1.2.1) ∧ (Bool.false = Bool.false ∧ nat_lit
0 = nat_lit 0 ∧ nat_lit 2 = nat_lit 2 ∧ x50.2.1.3.1 = x50.2.1.3.1) ∧ Int.ofNat (0 : Nat) = Int.ofNat (0 : Nat) ∧ Int.ofNat (0 : Nat) = Int.ofNat (0 : Nat) ∧ Int.ofNat (0 : Nat) =
Int.ofNat (0 : Nat) ∧ Int.ofNat (0 : Nat) = Int.ofNat (0 : Nat) ∧ Int.ofNat (0 : Nat) = Int.ofNat (0 : Nat) ∧ True) ∧ True) ∧ (True ∧ FlatL x50.2.1.1.2 ∧ x50.2.1.1.2 = x50.2.1.1.2)
∧ (True ∧ FlatL x50.2.1.2.2 ∧ x50.2.1.2.2 = x50.2.1.2.2) ∧ (True ∧ FlatL x50.2.1.3.2 ∧ x50.2.1.3.2 = x50.2.1.3.2) ∧ True) ∧ (∀ (x71 : PB), (∀ (x72 : PX), PH (PA.mk (SA.mk
Bool.false (nat_lit 0) (nat_lit 2) x50.2.1.1.1 x50.2.1.1.2) (SA.mk Bool.false (nat_lit 0) (nat_lit 2) x50.2.1.2.1 x50.2.1.2.2) (SA.mk Bool.false (nat_lit 0) (nat_lit 2) x50.2.1.3.1
x50.2.1.3.2) (Int.ofNat (0 : Nat)) (Int.ofNat (0 : Nat)) (Int.ofNat (0 : Nat)) (Int.ofNat (0 : Nat)) (Int.ofNat (0 : Nat))) x72 → PH (PA.mk (SA.mk Bool.false (0 : Nat) (nat_lit 2)
x71.1.1 x71.1.2) (SA.mk Bool.false (0 : Nat) (nat_lit 2) x71.2.1 x71.2.2) (SA.mk Bool.false (0 : Nat) (nat_lit 2) x71.3.1 x71.3.2) (Int.ofNat (0 : Nat)) (Int.ofNat (0 : Nat))
(Int.ofNat (0 : Nat)) (Int.ofNat (0 : Nat)) (Int.ofNat (0 : Nat))) x72) ∧ (Bool.false = Bool.false → List.length x71.1.2 = nat_lit 2) → (True ∧ (∃ (x73 : List Int), Sli (Value.int
IntKind.i64) (1 : Nat) a.2.1 (nat_lit 0) a.2.3 x50.2.2.1 x50.2.2.2 x73) ∧ a.2.3 ≤ (1000 : Nat)) ∧ (((a.2.1 = a.2.1 ∧ nat_lit 0 = nat_lit 0 ∧ a.2.3 = a.2.3 ∧ x50.2.2.1 = x50.2.2.1)
∧ True) ∧ (True ∧ FlatL x50.2.2.2 ∧ x50.2.2.2 = x50.2.2.2) ∧ True) ∧ (∀ (x74 : RW), (∀ (x75 : List Int), Sli (Value.int IntKind.i64) (1 : Nat) a.2.1 (nat_lit 0) a.2.3 x50.2.2.1
x50.2.2.2 x75 → Sli (Value.int IntKind.i64) (1 : Nat) a.2.1 (0 : Nat) a.2.3 x74.1 x74.2 x75) → ((True ∧ True ∧ True) ∧ (True ∧ True ∧ True) ∧ (True ∧ True ∧ True) ∧ (W_G_noneA_0 a
x50 = W_G_noneA_0 a x50 ∧ W_G_noneA_0 a x50 = W_G_noneA_0 a x50 ∧ True) ∧ True ∧ True ∧ True ∧ True ∧ True ∧ (True ∧ True) ∧ (True ∧ True) ∧ (True ∧ True) ∧ (W_G_noneA_0 a x50 =
W_G_noneA_0 a x50 ∧ True) ∧ True ∧ True ∧ True ∧ True) ∧ (True ∧ True ∧ True ∧ (True ∧ True) ∧ (W_G_noneA_2 a x71 x74 = W_G_noneA_2 a x71 x74 ∧ True) ∧ (True ∧ True) ∧ (W_G_noneA_2
a x71 x74 = W_G_noneA_2 a x71 x74 ∧ True) ∧ True ∧ True ∧ True ∧ True) ∧ (True ∧ (∃ (x76 : List Int), ∃ (x77 : List Int), Sli (Value.int IntKind.i64) (1 : Nat) a.2.1 (nat_lit 0)
a.2.3 x74.1 x74.2 x76 ∧ Sli (Value.int IntKind.i64) (1 : Nat) a.2.1 a.2.2 a.2.3 a.2.4 a.2.5 x77) ∧ a.2.3 ≤ (1000000 : Nat) ∧ a.2.3 ≤ (1000000 : Nat)) ∧ (((a.2.1 = a.2.1 ∧ nat_lit 0
= (0 : Nat) ∧ a.2.3 = a.2.3 ∧ x74.1 = x74.1) ∧ (a.2.1 = a.2.1 ∧ a.2.2 = a.2.2 ∧ a.2.3 = a.2.3 ∧ a.2.4 = a.2.4) ∧ True) ∧ (True ∧ FlatL x74.2 ∧ x74.2 = x74.2) ∧ (True ∧ FlatL a.2.5
∧ a.2.5 = a.2.5) ∧ True) ∧ (∀ (x78 : Unit), (∀ (x79 x80 : List Int), Sli (Value.int IntKind.i64) (1 : Nat) a.2.1 (nat_lit 0) a.2.3 x74.1 x74.2 x79 → Sli (Value.int IntKind.i64) (1
: Nat) a.2.1 a.2.2 a.2.3 a.2.4 a.2.5 x80 → x79 = x80) → (True ∧ (((∃ (x81 : PX), PH (PA.mk (SA.mk Bool.false (0 : Nat) (nat_lit 2) x71.1.1 x71.1.2) (SA.mk Bool.false (0 : Nat)
(nat_lit 2) x71.2.1 x71.2.2) (SA.mk Bool.false (0 : Nat) (nat_lit 2) x71.3.1 x71.3.2) (Int.ofNat (0 : Nat)) (Int.ofNat (0 : Nat)) (Int.ofNat (0 : Nat)) (Int.ofNat (0 : Nat))
(Int.ofNat (0 : Nat))) x81) ∧ ∃ (x82 : PX), PH (PA.mk (SA.mk Bool.false (nat_lit 0) (nat_lit 2) x50.1.3.1 x50.1.3.2) (SA.mk Bool.false (nat_lit 0) (nat_lit 2) x50.1.4.1 x50.1.4.2)
(SA.mk Bool.false (nat_lit 0) (nat_lit 2) x50.1.5.1 x50.1.5.2) (Int.ofNat (0 : Nat)) (Int.ofNat (0 : Nat)) (Int.ofNat (0 : Nat)) (Int.ofNat (0 : Nat)) (Int.ofNat (0 : Nat))) x82) ∧
(nat_lit 2 ≤ (1000 : Nat) ∧ nat_lit 2 ≤ (1000 : Nat) ∧ nat_lit 2 ≤ (1000 : Nat)) ∧ nat_lit 2 ≤ (1000 : Nat) ∧ nat_lit 2 ≤ (1000 : Nat) ∧ nat_lit 2 ≤ (1000 : Nat)) ∧ (∃ (x83 : PX),
PH (PA.mk (SA.mk Bool.false (0 : Nat) (nat_lit 2) x71.1.1 x71.1.2) (SA.mk Bool.false (0 : Nat) (nat_lit 2) x71.2.1 x71.2.2) (SA.mk Bool.false (0 : Nat) (nat_lit 2) x71.3.1 x71.3.2)
(Int.ofNat (0 : Nat)) (Int.ofNat (0 : Nat)) (Int.ofNat (0 : Nat)) (Int.ofNat (0 : Nat)) (Int.ofNat (0 : Nat))) x83 ∧ PH (PA.mk (SA.mk Bool.false (nat_lit 0) (nat_lit 2) x50.1.3.1
x50.1.3.2) (SA.mk Bool.false (nat_lit 0) (nat_lit 2) x50.1.4.1 x50.1.4.2) (SA.mk Bool.false (nat_lit 0) (nat_lit 2) x50.1.5.1 x50.1.5.2) (Int.ofNat (0 : Nat)) (Int.ofNat (0 : Nat))
(Int.ofNat (0 : Nat)) (Int.ofNat (0 : Nat)) (Int.ofNat (0 : Nat))) x83) ∧ RollsEq (PA.mk (SA.mk Bool.false (0 : Nat) (nat_lit 2) x71.1.1 x71.1.2) (SA.mk Bool.false (0 : Nat)
(nat_lit 2) x71.2.1 x71.2.2) (SA.mk Bool.false (0 : Nat) (nat_lit 2) x71.3.1 x71.3.2) (Int.ofNat (0 : Nat)) (Int.ofNat (0 : Nat)) (Int.ofNat (0 : Nat)) (Int.ofNat (0 : Nat))
(Int.ofNat (0 : Nat))) (PA.mk (SA.mk Bool.false (nat_lit 0) (nat_lit 2) x50.1.3.1 x50.1.3.2) (SA.mk Bool.false (nat_lit 0) (nat_lit 2) x50.1.4.1 x50.1.4.2) (SA.mk Bool.false
(nat_lit 0) (nat_lit 2) x50.1.5.1 x50.1.5.2) (Int.ofNat (0 : Nat)) (Int.ofNat (0 : Nat)) (Int.ofNat (0 : Nat)) (Int.ofNat (0 : Nat)) (Int.ofNat (0 : Nat)))) ∧ ((((Bool.false =
Bool.false ∧ nat_lit 0 = (0 : Nat) ∧ nat_lit 2 = nat_lit 2 ∧ x71.1.1 = x71.1.1) ∧ (Bool.false = Bool.false ∧ nat_lit 0 = (0 : Nat) ∧ nat_lit 2 = nat_lit 2 ∧ x71.2.1 = x71.2.1) ∧
(Bool.false = Bool.false ∧ nat_lit 0 = (0 : Nat) ∧ nat_lit 2 = nat_lit 2 ∧ x71.3.1 = x71.3.1) ∧ Int.ofNat (0 : Nat) = Int.ofNat (0 : Nat) ∧ Int.ofNat (0 : Nat) = Int.ofNat (0 :
Nat) ∧ Int.ofNat (0 : Nat) = Int.ofNat (0 : Nat) ∧ Int.ofNat (0 : Nat) = Int.ofNat (0 : Nat) ∧ Int.ofNat (0 : Nat) = Int.ofNat (0 : Nat) ∧ True) ∧ ((Bool.false = Bool.false ∧
nat_lit 0 = nat_lit 0 ∧ nat_lit 2 = nat_lit 2 ∧ x50.1.3.1 = x50.1.3.1) ∧ (Bool.false = Bool.false ∧ nat_lit 0 = nat_lit 0 ∧ nat_lit 2 = nat_lit 2 ∧ x50.1.4.1 = x50.1.4.1) ∧
(Bool.false = Bool.false ∧ nat_lit 0 = nat_lit 0 ∧ nat_lit 2 = nat_lit 2 ∧ x50.1.5.1 = x50.1.5.1) ∧ Int.ofNat (0 : Nat) = Int.ofNat (0 : Nat) ∧ Int.ofNat (0 : Nat) = Int.ofNat (0 :
Nat) ∧ Int.ofNat (0 : Nat) = Int.ofNat (0 : Nat) ∧ Int.ofNat (0 : Nat) = Int.ofNat (0 : Nat) ∧ Int.ofNat (0 : Nat) = Int.ofNat (0 : Nat) ∧ True) ∧ True) ∧ (True ∧ FlatL x71.1.2 ∧
x71.1.2 = x71.1.2) ∧ (True ∧ FlatL x71.2.2 ∧ x71.2.2 = x71.2.2) ∧ (True ∧ FlatL x71.3.2 ∧ x71.3.2 = x71.3.2) ∧ (True ∧ FlatL x50.1.3.2 ∧ x50.1.3.2 = x50.1.3.2) ∧ (True ∧ FlatL
x50.1.4.2 ∧ x50.1.4.2 = x50.1.4.2) ∧ (True ∧ FlatL x50.1.5.2 ∧ x50.1.5.2 = x50.1.5.2) ∧ True) ∧ (∀ (x84 : Unit), True → (x50.1.2.1 = x50.1.2.1 ∧ x50.1.2.2 = x50.1.2.2 ∧ x50.1.2.3 =
x50.1.2.3 ∧ x50.1.2.4 = x50.1.2.4 ∧ x50.1.2.5 = x50.1.2.5 ∧ x50.1.2.6 = x50.1.2.6 ∧ x50.1.2.7 = x50.1.2.7 ∧ x50.1.2.8 = x50.1.2.8 ∧ True → (True ∧ True ∧ True ∧ True ∧ True ∧ True
∧ True ∧ True ∧ True ∧ True ∧ True ∧ True ∧ True ∧ True ∧ True ∧ True ∧ True ∧ True ∧ True ∧ True ∧ True ∧ True ∧ (True ∧ True) ∧ (W_G_noneA_3 a x50 x71 x74 = W_G_noneA_3 a x50 x71
x74 ∧ True) ∧ True ∧ True ∧ True ∧ True ∧ True ∧ True ∧ True ∧ True ∧ True ∧ True ∧ True ∧ True) ∧ ∃ (x85 : Unit), True ∧ Bool.true = Bool.true ∧ True) ∧ (¬(x50.1.2.1 = x50.1.2.1 ∧
x50.1.2.2 = x50.1.2.2 ∧ x50.1.2.3 = x50.1.2.3 ∧ x50.1.2.4 = x50.1.2.4 ∧ x50.1.2.5 = x50.1.2.5 ∧ x50.1.2.6 = x50.1.2.6 ∧ x50.1.2.7 = x50.1.2.7 ∧ x50.1.2.8 = x50.1.2.8 ∧ True) →
(True ∧ True ∧ True ∧ True ∧ True ∧ True ∧ True ∧ True ∧ True ∧ True ∧ True ∧ True ∧ True ∧ True ∧ True ∧ True ∧ True ∧ True ∧ True ∧ True ∧ True ∧ True ∧ (True ∧ True) ∧
(W_G_noneA_3 a x50 x71 x74 = W_G_noneA_3 a x50 x71 x74 ∧ True) ∧ True ∧ True ∧ True ∧ True ∧ True ∧ True ∧ True ∧ True ∧ True ∧ True ∧ True ∧ True) ∧ ∃ (x86 : Unit), True ∧
Bool.true = Bool.false ∧ True)) ∧ True) ∧ (∀ (x87 : Unit), (∀ (x88 x89 : List Int), Sli (Value.int IntKind.i64) (1 : Nat) a.2.1 (nat_lit 0) a.2.3 x74.1 x74.2 x88 → Sli (Value.int
IntKind.i64) (1 : Nat) a.2.1 a.2.2 a.2.3 a.2.4 a.2.5 x89 → x88 ≠ x89) → (True ∧ True ∧ True ∧ True ∧ True ∧ True ∧ True ∧ True ∧ True ∧ True ∧ True ∧ True ∧ True ∧ True ∧ True ∧
True ∧ True ∧ True ∧ True ∧ True ∧ True ∧ True ∧ True ∧ True ∧ True ∧ True ∧ True ∧ True ∧ True ∧ True ∧ True ∧ True ∧ True ∧ True ∧ True ∧ True) ∧ ∃ (x90 : Unit), True ∧ Bool.true
= Bool.false ∧ True) ∧ True) ∧ True) ∧ True) ∧ True) ∧ True) ∧ True) ∧ True)) ∧ True) ∧ True)) ∧ True) := by kernel_rfl
set_option maxHeartbeats 3200000 in
theorem g_noneA (a : NnA) (xs : List Int) (hw : 0 ≤ a.w ∧ a.w < 256) (h : Sli (Value.int .i64) 1 a.s.n a.s.o a.s.l a.s.k a.s.c xs) (hc : a.s.l = 2 ∧ inRt xs ∧ rightP (sumC xs)) : GW (G_noneA a xs) := by
  have hf := h.flat
  have hlen : xs.length = a.s.l * 1 := h.len
  have c0 := flc0; have c1 := flc1; have c2 := flc2; have c4 := flc4; have c5 := flc5; have c6 := flc6; have c8 := flc8; have c9 := flc9; have c10 := flc10
  refine ⟨?_⟩
  rw [vc_noneA]
  refine ⟨by (repeat' first | with_reducible apply And.intro | exact trivial | with_reducible assumption | with_reducible rfl | exact rfl), by (repeat' first | with_reducible apply And.intro | exact trivial | with_reducible assumption | with_reducible rfl | exact rfl), fun _ _ x1 e1 => ⟨fun hgt => ⟨by (repeat' first | with_reducible apply And.intro | exact trivial | with_reducible assumption | with_reducible rfl | exact rfl), by (repeat' first | with_reducible apply And.intro | exact trivial | with_reducible assumption | with_reducible rfl | exact rfl), fun _ _ => ⟨(), trivial, rfl, trivial⟩, trivial⟩, fun hle => ?_⟩, trivial⟩
  have hm : a.s.l ≤ 1000 := by omega
  refine ⟨⟨trivial, hw⟩, by (repeat' first | with_reducible apply And.intro | exact trivial | with_reducible assumption | with_reducible rfl | exact rfl), fun b hb => ?_, trivial⟩
  have hok : okSt b := hb
  obtain ⟨⟨r1, r2⟩, hst, hce, px, cs, hpx, hcs, hin⟩ := hok
  have f1 := hpx.p1.flat
  have f2 := hpx.p2.flat
  have f3 := hpx.p3.flat
  refine ⟨⟨trivial, ⟨⟨r1, r2⟩, okNw_of hb a.s, ⟨by decide, by decide, by decide⟩, ⟨xs, h⟩, hm⟩, hce.symm, ⟨hc.1.trans hst.symm, fun ys hy => by rw [Sli.uniqI hy h]; exact hc.2⟩⟩, by (repeat' first | with_reducible apply And.intro | exact trivial | with_reducible assumption | with_reducible rfl | exact rfl), fun o ho x9 e9 => ?_, trivial⟩
  obtain ⟨ho1, ho2⟩ := ho
  have ho1 := ho1 _ h
  have v1 := (ho2 _ hpx).p1.flat
  have v2 := (ho2 _ hpx).p2.flat
  have v3 := (ho2 _ hpx).p3.flat
  have v4 := ho1.flat
  refine ⟨⟨b, o, 0, 0⟩, ⟨⟨⟨Int.le_refl 0, Int.natCast_nonneg _⟩, rfl⟩, hb, ho2, ho1⟩, by (have e9 := e9.symm; ((repeat' first | with_reducible apply And.intro | exact trivial | with_reducible assumption | with_reducible rfl | exact rfl))), ?_⟩
  rintro ⟨c, d, k, z⟩ ⟨⟨⟨h0, h1⟩, hq⟩, hc2, hd1, hd2⟩
  dsimp only at h0 h1 hq
  have hc3 : okSt c := hc2
  obtain ⟨⟨s1, s2⟩, -, -, qx, ds, hqx, -, -⟩ := hc3
  have t1 := hqx.p1.flat
  have t2 := hqx.p2.flat
  have t3 := hqx.p3.flat
  have w1 := (hd1 _ hqx).p1.flat
  have w2 := (hd1 _ hqx).p2.flat
  have w3 := (hd1 _ hqx).p3.flat
  have w4 := hd2.flat
  have hin : k < (a.s.l : Int) → rightP (xs.getD k.toNat 0) := fun hlt => hc.2.1 _ (by simp [List.getD, show k.toNat < xs.length by omega])
  refine ⟨fun hlt => ⟨⟨h0, hlt⟩, fun x3 e3 => ⟨xs.getD k.toNat 0, rd_at h h0 hlt e3, fun v0 x5 e5 => ?_, fun v0 => ⟨fun v1 x5 e5 => ?_, fun v1 y ey x5 e5 => ?_⟩⟩⟩, fun hge => ⟨fun x21 e21 => ⟨fun n => ?_, fun _ => ⟨fun v2 => ?_, fun v2 => ?_⟩⟩, ?_⟩⟩
  · exact absurd (hin hlt).1 (Int.not_le.2 v0)
  · exact absurd (hin hlt).2 (Int.not_le.2 v1)
  · have e5 : x5 = k + 1 := e5.trans (wrap_k h0 hlt hm)
    have hlt' : k < (a.s.l : Int) := hlt
    have hz : y = sumC (xs.take (k + 1).toNat) := by rw [take_next h0 (by omega), sumC_snoc, ← hq]; exact ey
    refine ⟨⟨c, d, k + 1, y⟩, ⟨⟨⟨by show 0 ≤ k + 1; omega, by show k + 1 ≤ (a.s.l : Int); omega⟩, hz⟩, hc2, hd1, hd2⟩, by show ((a.s.l : Int) - (k + 1)).toNat < ((a.s.l : Int) - k).toNat; omega, ?_⟩
    subst e5
    (repeat' first | with_reducible apply And.intro | exact trivial | with_reducible assumption | with_reducible rfl | exact rfl)
  · exact (n (by have : x21 = (a.s.l : Int) := e21; have := hc.1; omega)).elim
  · have hkl : k.toNat = xs.length := by have : ¬ k < (a.s.l : Int) := hge; have : k ≤ (a.s.l : Int) := h1; omega
    have hq2 : z = sumC xs := by rw [hq, hkl, List.take_length]
    have : z ≤ 1125899906842624 := by rw [hq2]; exact hc.2.2.2
    exact absurd this (Int.not_le.2 v2)
  · refine ⟨⟨c, d⟩, ⟨hc2, hd1, hd2⟩, ?_⟩
    (repeat' first | with_reducible apply And.intro | exact trivial | with_reducible assumption | with_reducible rfl | exact rfl)
  · clear f1 f2 f3 v1 v2 v3 v4 t1 t2 t3 w1 w2 w3 w4 r1 r2 s1 s2 hcs hst hce hb hc2 hd1 hd2 ho1 ho2 hq h0 h1 hin
    rintro ⟨b, o⟩ ⟨hb, ho2, ho1⟩
    have hok : okSt b := hb
    obtain ⟨⟨r1, r2⟩, hst, hce, px, cs, hpx, hcs, hin⟩ := hok
    have f1 := hpx.p1.flat
    have f2 := hpx.p2.flat
    have f3 := hpx.p3.flat
    have v1 := (ho2 _ hpx).p1.flat
    have v2 := (ho2 _ hpx).p2.flat
    have v3 := (ho2 _ hpx).p3.flat
    have v4 := ho1.flat
    refine ⟨⟨trivial, ⟨px, hpx⟩, by decide, by decide, by decide⟩, by (repeat' first | with_reducible apply And.intro | exact trivial | with_reducible assumption | with_reducible rfl | exact rfl), fun pb hpb => ⟨⟨(fun hf => nomatch hf), fun _ => ⟨Nat.le_refl 1, fun ys hys => ?_⟩⟩, ?_⟩, trivial⟩
    · obtain ⟨hp1, hp2⟩ := hpb
      have hl := hp2 rfl
      have hq := hp1 _ hpx
      have g1 := hq.p1.flat
      have g2 := hq.p2.flat
      have g3 := hq.p3.flat
      have hcap : 2 ≤ pb.b1.k := hq.p1.cap
      have hys : ys = [tgI .i32 a.n] := hys
      subst hys
      refine ⟨⟨rfl, hl, rfl, hcap, by unfold Few; decide, rfl⟩, fun n k hn hk => ?_⟩
      have hn : n = 3 := hn
      have hk : k = if n ≤ pb.b1.k then pb.b1.k else n := hk
      have hk3 : 3 ≤ k := by rw [hk]; split <;> omega
      have g4 : FlatL (pb.b1.c ++ [tgI .i32 a.n]) := fun v hv => (List.mem_append.1 hv).elim (g1 v) (fun e => by rw [List.mem_singleton.1 e]; exact ftag_tgI _ _)
      refine ⟨⟨b, o, n, k, pb.b1.c ++ [tgI .i32 a.n], pb.b2, pb.b3⟩, ⟨⟨hb, ho2, ho1⟩, okNw_bad hb hp1 hl hn hk3 a.n a.s, fun e => ?_, ?_⟩, ?_⟩
      · have e : n = b.g.ce.l := e
        omega
      · show n ≤ 1000
        omega
      · (repeat' first | with_reducible apply And.intro | exact trivial | with_reducible assumption | with_reducible rfl | exact rfl)
    · clear f1 f2 f3 v1 v2 v3 v4 r1 r2 hcs hst hce hb ho1 ho2 hin hpb
      rintro ⟨b, o, n, k, c, b2, b3⟩ ⟨⟨hb, ho2, ho1⟩, hq1, hq2, hq3⟩
      have hok : okSt b := hb
      obtain ⟨⟨r1, r2⟩, hst, hce, px, cs, hpx, hcs, hin⟩ := hok
      have hbad := hq1
      obtain ⟨bx, bcs, hbx, -⟩ := hbad
      have f1 := hpx.p1.flat
      have f2 := hpx.p2.flat
      have f3 := hpx.p3.flat
      have hox := ho2 _ hpx
      have v1 := hox.p1.flat
      have v2 := hox.p2.flat
      have v3 := hox.p3.flat
      have v4 := ho1.flat
      have u1 := hbx.p1.flat
      have u2 := hbx.p2.flat
      have u3 := hbx.p3.flat
      have hl0 : (0 : Int) < (a.s.l : Int) := by have := hc.1; omega
      refine ⟨⟨trivial, ⟨⟨r1, r2⟩, hq1, ⟨hq3, by decide, by decide⟩, ⟨xs, h⟩, hm⟩, hq2⟩, by (repeat' first | with_reducible apply And.intro | exact trivial | with_reducible assumption | with_reducible rfl | exact rfl), fun _ _ => ⟨⟨trivial, ⟨px, hox⟩, by decide, by decide, by decide⟩, by (repeat' first | with_reducible apply And.intro | exact trivial | with_reducible assumption | with_reducible rfl | exact rfl), fun pa hpa => ?_, trivial⟩, trivial⟩
      have hpx2 := hpa.1 _ hox
      have a1 := hpx2.p1.flat
      have a2 := hpx2.p2.flat
      have a3 := hpx2.p3.flat
      refine ⟨⟨trivial, ⟨xs, ho1⟩, hm⟩, by (repeat' first | with_reducible apply And.intro | exact trivial | with_reducible assumption | with_reducible rfl | exact rfl), fun sb hsb => ?_, trivial⟩
      have hsx := hsb _ ho1
      have a4 := hsx.flat
      have rd0 : ∀ {x : Nat}, x = 0 → Rd sb.c (Nat.add x 0) (.int .i64 (xs.getD 0 0)) := fun e => rd_at hsx (k := 0) (Int.le_refl 0) hl0 (by rw [e]; rfl)
      have rd1 : ∀ {x : Nat}, x = 0 → Rd pa.b1.c (Nat.add x 0) (.int .i32 (px.vars.getD 0 0)) := fun e => Sli.rdD hpx2.p1 (i := 0) (show 0 < 2 from Nat.zero_lt_two) (by rw [e])
      have ln0 : 1 ≤ sb.c.length := by have := hsx.fit; have hn : a.s.n = false := (by cases e : a.s.n with | false => rfl | true => have := (h.nil e).1; omega); have := this hn; omega
      have ln1 : 1 ≤ pa.b1.c.length := by have : 0 + 2 * 1 ≤ pa.b1.c.length := hpx2.p1.fit rfl; omega
      refine ⟨by (repeat' first | with_reducible apply And.intro | exact trivial | with_reducible assumption | with_reducible rfl | exact rfl), by (repeat' first | with_reducible apply And.intro | exact trivial | with_reducible assumption | with_reducible rfl | exact rfl), ⟨Int.le_refl 0, hl0⟩, fun x60 e60 => ⟨_, rd0 e60, fun x62 e62 => ⟨⟨Int.le_refl 0, hl0⟩, fun x63 e63 => ⟨by rw [e63]; exact ln0, fun x64 e64 => ⟨⟨Int.le_refl 0, by decide⟩, fun x65 e65 => ⟨_, rd1 e65, fun x67 e67 => ⟨⟨Int.le_refl 0, by decide⟩, fun x68 e68 => ⟨by rw [e68]; exact ln1, fun x69 e69 => ?_⟩⟩⟩⟩⟩⟩⟩⟩
      refine ⟨⟨trivial, ⟨px, hox⟩, by decide, by decide, by decide⟩, by (repeat' first | with_reducible apply And.intro | exact trivial | with_reducible assumption | with_reducible rfl | exact rfl), fun pc hpc => ?_, trivial⟩
      have hpx3 := hpc.1 _ hox
      have b1 := hpx3.p1.flat
      have b2' := hpx3.p2.flat
      have b3' := hpx3.p3.flat
      refine ⟨⟨trivial, ⟨xs, ho1⟩, hm⟩, by (repeat' first | with_reducible apply And.intro | exact trivial | with_reducible assumption | with_reducible rfl | exact rfl), fun sc hsc => ?_, trivial⟩
      have hsy := hsc _ ho1
      have b4 := hsy.flat
      refine ⟨by (repeat' first | with_reducible apply And.intro | exact trivial | with_reducible assumption | with_reducible rfl | exact rfl), by (repeat' first | with_reducible apply And.intro | exact trivial | with_reducible assumption | with_reducible rfl | exact rfl), ⟨trivial, ⟨xs, xs, hsy, h⟩, by show a.s.l ≤ 1000000; omega, by show a.s.l ≤ 1000000; omega⟩, by (repeat' first | with_reducible apply And.intro | exact trivial | with_reducible assumption | with_reducible rfl | exact rfl), fun _ _ => ⟨⟨trivial, ⟨⟨⟨px, hpx3⟩, ⟨px, hpx⟩⟩, ⟨by decide, by decide, by decide⟩, by decide, by decide, by decide⟩, ⟨px, hpx3, hpx⟩, ⟨rfl, rfl, rfl, rfl, rfl⟩⟩, by (repeat' first | with_reducible apply And.intro | exact trivial | with_reducible assumption | with_reducible rfl | exact rfl), fun _ _ => ⟨fun _ => ⟨by (repeat' first | with_reducible apply And.intro | exact trivial | with_reducible assumption | with_reducible rfl | exact rfl), (), trivial, rfl, trivial⟩, fun n => (n (by (repeat' first | with_reducible apply And.intro | exact trivial | with_reducible assumption | with_reducible rfl | exact rfl))).elim⟩, trivial⟩, fun _ hno => (hno _ _ hsy h rfl).elim, trivial⟩
end Go.Proofs.YthcldogebnjohaaGreatDoor
