/- A game's rules: Seats, seat, Check are what is told of them. -/
import Derived.Test.YthcldogebnjohaaGreatDoorYsa
section
set_option maxRecDepth 100000
namespace Go.Proofs.YthcldogebnjohaaGreatDoor
open Go.Ev
set_option linter.unusedSectionVars false
variable [Go.Ev.Frozen Tryz.prog]
noncomputable section
def W_G_checkR_0 : RpA → Option AO := fun (a : RpA) => Option.some (AO.row (Array.toList (Array.mk [Value.iface (1000000009 : Nat) (Value.agg (Array.mk [Value.bool a.2.1.1, Value.slice (Option.some (Addr.mk (15 : Nat)
a.2.1.2 Option.none)) a.2.1.3 a.2.1.4])), Value.iface (1000000009 : Nat) (Value.agg (Array.mk [Value.bool a.2.2.1, Value.slice (Option.some (Addr.mk (16 : Nat) a.2.2.2
Option.none)) a.2.2.3 a.2.2.4])), Value.iface (1000000009 : Nat) (Value.agg (Array.mk [Value.bool a.2.3.1, Value.slice (Option.some (Addr.mk (17 : Nat) a.2.3.2 Option.none))
a.2.3.3 a.2.3.4])), Value.iface (1000000007 : Nat) (Value.int IntKind.i64 a.2.4), Value.iface (1000000007 : Nat) (Value.int IntKind.i64 a.2.5), Value.iface (1000000007 : Nat)
(Value.int IntKind.i64 a.2.6), Value.iface (1000000007 : Nat) (Value.int IntKind.i64 a.2.7), Value.iface (1000000007 : Nat) (Value.int IntKind.u64 a.2.8)])) (32 : Nat) Md.own)
def W_G_checkR_1 : RpA → Option AO := fun (a : RpA) => Option.some (AO.row a.2.2.5 (4 : Nat) Md.gro)
def W_G_checkR_2 : RpA → Option AO := fun (a : RpA) => Option.some (AO.row a.2.3.5 (41 : Nat) Md.gro)
end
theorem wrap_sm {x : Int} (h : -9223372036854775808 ≤ x ∧ x ≤ 9223372036854775807) : IntKind.wrap .i64 x = x := by rw [wrap_i64]; omega
theorem Sli.rdD {k : IntKind} {nb : Bool} {o l kk : Nat} {c : List Value} {xs : List Int} (h : Sli (Value.int k) 1 nb o l kk c xs) {i : Nat} (hi : i < l) {p : Nat} (hp : p = o + i * 1) : Rd c (Nat.add p 0) (Value.int k (xs.getD i 0)) := by
  have hl := h.len
  have hi' : i < xs.length := by omega
  have := h.at_ i (xs.getD i 0) (by simp [List.getD, hi'])
  rw [show Nat.add p 0 = o + i by show p + 0 = _; omega]
  exact this
theorem vc_seatsR (a : RlA) : G_seatsR a = (∀ (x0 : Int), x0 = (↑a.1.3 : Int) → ∃ (x1 : Unit), True ∧ (↑a.1.3 : Int) = x0 ∧ True) := by kernel_rfl
theorem vc_seatR (a : RsA) : G_seatR a = (((0 : Int) ≤ a.2 → (True ∧ FlatL a.1.1.5 ∧ FlatL a.1.2.5) ∧ (((0 : Nat) = (0 : Nat) ∧ True) ∧ (True ∧ True ∧ (a.1.1.1 = a.1.1.1 ∧ a.1.1.2 = a.1.1.2 ∧ a.1.1.3 = a.1.1.3 ∧ a.1.1.4 =
a.1.1.4) ∧ True ∧ True ∧ True ∧ True ∧ True ∧ True ∧ True ∧ True ∧ True ∧ True ∧ (a.1.2.1 = a.1.2.1 ∧ a.1.2.2 = a.1.2.2 ∧ a.1.2.3 = a.1.2.3 ∧ a.1.2.4 = a.1.2.4) ∧ True) ∧ (True ∧
FlatL a.1.1.5 ∧ a.1.1.5 = a.1.1.5) ∧ (True ∧ FlatL a.1.2.5 ∧ a.1.2.5 = a.1.2.5) ∧ True) ∧ (∀ (x0 : Unit), True → (a.2 < (↑a.1.1.3 : Int) → ∃ (x1 : Unit), ((0 : Int) ≤ a.2 ∧ a.2 <
(↑a.1.1.3 : Int)) ∧ Bool.true = Bool.true ∧ True) ∧ (¬a.2 < (↑a.1.1.3 : Int) → ∃ (x2 : Unit), ((0 : Int) ≤ a.2 ∧ a.2 < (↑a.1.1.3 : Int) → False) ∧ Bool.false = Bool.false ∧ True))
∧ True) ∧ (¬(0 : Int) ≤ a.2 → ∃ (x3 : Unit), ((0 : Int) ≤ a.2 ∧ a.2 < (↑a.1.1.3 : Int) → False) ∧ Bool.false = Bool.false ∧ True)) := by kernel_rfl
theorem vc_checkR (a : RpA) (x : PX) (cs : List Int) : G_checkR a x cs = (∀ (x0 : Int), x0 = (↑a.2.1.3 : Int) → ∀ (x1 : Int), x1 = (↑a.1.2.3 : Int) → (x0 ≠ x1 → (True ∧ True ∧ True ∧ True ∧ True ∧ True ∧ True ∧ True ∧ True ∧ True ∧ True ∧ True ∧ True ∧
True ∧ True ∧ True ∧ True ∧ True ∧ True ∧ True ∧ True ∧ True ∧ True ∧ True ∧ True ∧ True ∧ True) ∧ ∃ (x2 : Unit), (a.2.1.3 = a.1.2.3 ∧ a.2.2.3 = a.1.1.3 ∧ a.2.3.3 = a.1.1.3 →
False) ∧ (3 : Int) = (3 : Int) ∧ True) ∧ (¬x0 ≠ x1 → ∀ (x3 : Int), x3 = (↑a.2.2.3 : Int) → (True ∧ FlatL a.1.1.5 ∧ FlatL a.1.2.5) ∧ (((0 : Nat) = (0 : Nat) ∧ True) ∧ (True ∧ True ∧
(a.1.1.1 = a.1.1.1 ∧ a.1.1.2 = a.1.1.2 ∧ a.1.1.3 = a.1.1.3 ∧ a.1.1.4 = a.1.1.4) ∧ True ∧ True ∧ True ∧ True ∧ True ∧ True ∧ True ∧ True ∧ True ∧ True ∧ (a.1.2.1 = a.1.2.1 ∧ a.1.2.2
= a.1.2.2 ∧ a.1.2.3 = a.1.2.3 ∧ a.1.2.4 = a.1.2.4) ∧ True) ∧ (True ∧ FlatL a.1.1.5 ∧ a.1.1.5 = a.1.1.5) ∧ (True ∧ FlatL a.1.2.5 ∧ a.1.2.5 = a.1.2.5) ∧ True) ∧ (∀ (x4 : Unit), True
→ (x3 ≠ (↑a.1.1.3 : Int) → (True ∧ True ∧ True ∧ True ∧ True ∧ True ∧ True ∧ True ∧ True ∧ True ∧ (True ∧ True) ∧ (W_G_checkR_0 a = W_G_checkR_0 a ∧ True) ∧ (W_G_checkR_1 a =
W_G_checkR_1 a ∧ True) ∧ True ∧ True ∧ True ∧ True ∧ True ∧ True ∧ True ∧ True ∧ True ∧ True ∧ True ∧ True ∧ True ∧ True) ∧ ∃ (x5 : Unit), (a.2.1.3 = a.1.2.3 ∧ a.2.2.3 = a.1.1.3 ∧
a.2.3.3 = a.1.1.3 → False) ∧ (3 : Int) = (3 : Int) ∧ True) ∧ (¬x3 ≠ (↑a.1.1.3 : Int) → ∀ (x6 : Int), x6 = (↑a.2.3.3 : Int) → (True ∧ FlatL a.1.1.5 ∧ FlatL a.1.2.5) ∧ (((0 : Nat) =
(0 : Nat) ∧ True) ∧ (True ∧ True ∧ (a.1.1.1 = a.1.1.1 ∧ a.1.1.2 = a.1.1.2 ∧ a.1.1.3 = a.1.1.3 ∧ a.1.1.4 = a.1.1.4) ∧ True ∧ True ∧ True ∧ True ∧ True ∧ True ∧ True ∧ True ∧ True ∧
True ∧ (a.1.2.1 = a.1.2.1 ∧ a.1.2.2 = a.1.2.2 ∧ a.1.2.3 = a.1.2.3 ∧ a.1.2.4 = a.1.2.4) ∧ True) ∧ (True ∧ FlatL a.1.1.5 ∧ a.1.1.5 = a.1.1.5) ∧ (True ∧ FlatL a.1.2.5 ∧ a.1.2.5 =
a.1.2.5) ∧ True) ∧ (∀ (x7 : Unit), True → (x6 ≠ (↑a.1.1.3 : Int) → (True ∧ True ∧ True ∧ True ∧ True ∧ True ∧ True ∧ True ∧ True ∧ True ∧ (True ∧ True) ∧ (W_G_checkR_0 a =
W_G_checkR_0 a ∧ True) ∧ (W_G_checkR_1 a = W_G_checkR_1 a ∧ True) ∧ True ∧ True ∧ True ∧ True ∧ True ∧ (True ∧ True) ∧ (W_G_checkR_0 a = W_G_checkR_0 a ∧ True) ∧ (W_G_checkR_2 a =
W_G_checkR_2 a ∧ True) ∧ True ∧ True ∧ True ∧ True ∧ True ∧ True) ∧ ∃ (x8 : Unit), (a.2.1.3 = a.1.2.3 ∧ a.2.2.3 = a.1.1.3 ∧ a.2.3.3 = a.1.1.3 → False) ∧ (3 : Int) = (3 : Int) ∧
True) ∧ (¬x6 ≠ (↑a.1.1.3 : Int) → (True ∧ True ∧ True ∧ True ∧ True ∧ True ∧ True ∧ True ∧ True ∧ True ∧ (True ∧ True) ∧ (W_G_checkR_0 a = W_G_checkR_0 a ∧ True) ∧ (W_G_checkR_1 a
= W_G_checkR_1 a ∧ True) ∧ True ∧ True ∧ True ∧ True ∧ True ∧ (True ∧ True) ∧ (W_G_checkR_0 a = W_G_checkR_0 a ∧ True) ∧ (W_G_checkR_2 a = W_G_checkR_2 a ∧ True) ∧ True ∧ True ∧
True ∧ True ∧ True ∧ True) ∧ ∀ (x9 : Int), x9 = (↑a.2.1.3 : Int) → ∃ (x10 : KI), (((0 : Int) ≤ x10.1 ∧ x10.1 ≤ (↑a.2.1.3 : Int)) ∧ (a.2.1.3 = a.1.2.3 ∧ a.2.2.3 = a.1.1.3 ∧ a.2.3.3
= a.1.1.3) ∧ inAll cs x.1 (Int.toNat x10.1)) ∧ (((0 : Nat) = (0 : Nat) ∧ ((a.2.1.1 = a.2.1.1 ∧ a.2.1.2 = a.2.1.2 ∧ a.2.1.3 = a.2.1.3 ∧ a.2.1.4 = a.2.1.4) ∧ (a.2.2.1 = a.2.2.1 ∧
a.2.2.2 = a.2.2.2 ∧ a.2.2.3 = a.2.2.3 ∧ a.2.2.4 = a.2.2.4) ∧ (a.2.3.1 = a.2.3.1 ∧ a.2.3.2 = a.2.3.2 ∧ a.2.3.3 = a.2.3.3 ∧ a.2.3.4 = a.2.3.4) ∧ a.2.4 = a.2.4 ∧ a.2.5 = a.2.5 ∧ a.2.6
= a.2.6 ∧ a.2.7 = a.2.7 ∧ a.2.8 = a.2.8 ∧ True) ∧ (0 : Nat) = (0 : Nat) ∧ (a.2.1.1 = a.2.1.1 ∧ a.2.1.2 = a.2.1.2 ∧ a.2.1.3 = a.2.1.3 ∧ a.2.1.4 = a.2.1.4) ∧ (↑a.2.1.3 : Int) = x9 ∧
x10.1 = (0 : Int) ∧ True) ∧ ((True ∧ (a.2.1.1 = a.2.1.1 ∧ a.2.1.2 = a.2.1.2 ∧ a.2.1.3 = a.2.1.3 ∧ a.2.1.4 = a.2.1.4) ∧ (a.2.2.1 = a.2.2.1 ∧ a.2.2.2 = a.2.2.2 ∧ a.2.2.3 = a.2.2.3 ∧
a.2.2.4 = a.2.2.4) ∧ (a.2.3.1 = a.2.3.1 ∧ a.2.3.2 = a.2.3.2 ∧ a.2.3.3 = a.2.3.3 ∧ a.2.3.4 = a.2.3.4) ∧ a.2.4 = a.2.4 ∧ a.2.5 = a.2.5 ∧ a.2.6 = a.2.6 ∧ a.2.7 = a.2.7 ∧ a.2.8 = a.2.8
∧ True) ∧ (True ∧ True ∧ (a.1.1.1 = a.1.1.1 ∧ a.1.1.2 = a.1.1.2 ∧ a.1.1.3 = a.1.1.3 ∧ a.1.1.4 = a.1.1.4) ∧ True ∧ True ∧ True ∧ True ∧ True ∧ True ∧ True ∧ True ∧ True ∧ True ∧
(a.1.2.1 = a.1.2.1 ∧ a.1.2.2 = a.1.2.2 ∧ a.1.2.3 = a.1.2.3 ∧ a.1.2.4 = a.1.2.4) ∧ True) ∧ (True ∧ FlatL a.1.1.5 ∧ a.1.1.5 = a.1.1.5) ∧ (True ∧ FlatL a.1.2.5 ∧ a.1.2.5 = a.1.2.5) ∧
(True ∧ FlatL a.2.1.5 ∧ a.2.1.5 = a.2.1.5) ∧ (True ∧ FlatL a.2.2.5 ∧ a.2.2.5 = a.2.2.5) ∧ (True ∧ FlatL a.2.3.5 ∧ a.2.3.5 = a.2.3.5) ∧ True) ∧ True) ∧ ∀ (x11 : KI), ((0 : Int) ≤
x11.1 ∧ x11.1 ≤ (↑a.2.1.3 : Int)) ∧ (a.2.1.3 = a.1.2.3 ∧ a.2.2.3 = a.1.1.3 ∧ a.2.3.3 = a.1.1.3) ∧ inAll cs x.1 (Int.toNat x11.1) → (x11.1 < (↑a.2.1.3 : Int) → ((0 : Int) ≤ x11.1 ∧
x11.1 < (↑a.2.1.3 : Int)) ∧ ∀ (x12 : Nat), x12 = a.2.1.2 + Int.toNat x11.1 * (1 : Nat) → ∃ (x13 : Int), Rd a.2.1.5 (Nat.add x12 (0 : Nat)) (Value.int IntKind.i32 x13) ∧ ((0 : Int)
≤ x11.1 ∧ x11.1 < (↑a.1.2.3 : Int)) ∧ ∀ (x14 : Nat), x14 = a.1.2.2 + Int.toNat x11.1 * (2 : Nat) → ((0 : Int) ≤ (0 : Int) ∧ (0 : Int) < (2 : Int)) ∧ ∀ (x15 : Nat), x15 = x14 + (0 :
Nat) → ∃ (x16 : Int), Rd a.1.2.5 (Nat.add x15 (0 : Nat)) (Value.int IntKind.i32 x16) ∧ (x13 < x16 → ∃ (x17 : Unit), ((a.2.1.3 = a.1.2.3 ∧ a.2.2.3 = a.1.1.3 ∧ a.2.3.3 = a.1.1.3) ∧ ∀
(x18 : PX) (x19 : List Int), PH a.2 x18 → Sli (Value.int IntKind.i32) (2 : Nat) a.1.2.1 a.1.2.2 a.1.2.3 a.1.2.4 a.1.2.5 x19 → ¬(inAll x19 x18.1 a.2.1.3 ∧ (rollZ a.2 ∨ rollOK
a.1.2.3 a.1.1.3 a.2 x18))) ∧ (2 : Int) = (2 : Int) ∧ True) ∧ (¬x13 < x16 → ((0 : Int) ≤ x11.1 ∧ x11.1 < (↑a.1.2.3 : Int)) ∧ ∀ (x20 : Nat), x20 = a.1.2.2 + Int.toNat x11.1 * (2 :
Nat) → ((0 : Int) ≤ (1 : Int) ∧ (1 : Int) < (2 : Int)) ∧ ∀ (x21 : Nat), x21 = x20 + (1 : Nat) → ∃ (x22 : Int), Rd a.1.2.5 (Nat.add x21 (0 : Nat)) (Value.int IntKind.i32 x22) ∧ (x22
< x13 → ∃ (x23 : Unit), ((a.2.1.3 = a.1.2.3 ∧ a.2.2.3 = a.1.1.3 ∧ a.2.3.3 = a.1.1.3) ∧ ∀ (x24 : PX) (x25 : List Int), PH a.2 x24 → Sli (Value.int IntKind.i32) (2 : Nat) a.1.2.1
a.1.2.2 a.1.2.3 a.1.2.4 a.1.2.5 x25 → ¬(inAll x25 x24.1 a.2.1.3 ∧ (rollZ a.2 ∨ rollOK a.1.2.3 a.1.1.3 a.2 x24))) ∧ (2 : Int) = (2 : Int) ∧ True) ∧ (¬x22 < x13 → ∀ (x26 : Int), x26
= IntKind.wrap IntKind.i64 (x11.1 + (1 : Int)) → ∃ (x27 : KI), (((0 : Int) ≤ x27.1 ∧ x27.1 ≤ (↑a.2.1.3 : Int)) ∧ (a.2.1.3 = a.1.2.3 ∧ a.2.2.3 = a.1.1.3 ∧ a.2.3.3 = a.1.1.3) ∧ inAll
cs x.1 (Int.toNat x27.1)) ∧ Int.toNat ((↑a.2.1.3 : Int) - x27.1) < Int.toNat ((↑a.2.1.3 : Int) - x11.1) ∧ ((0 : Nat) = (0 : Nat) ∧ ((a.2.1.1 = a.2.1.1 ∧ a.2.1.2 = a.2.1.2 ∧ a.2.1.3
= a.2.1.3 ∧ a.2.1.4 = a.2.1.4) ∧ (a.2.2.1 = a.2.2.1 ∧ a.2.2.2 = a.2.2.2 ∧ a.2.2.3 = a.2.2.3 ∧ a.2.2.4 = a.2.2.4) ∧ (a.2.3.1 = a.2.3.1 ∧ a.2.3.2 = a.2.3.2 ∧ a.2.3.3 = a.2.3.3 ∧
a.2.3.4 = a.2.3.4) ∧ a.2.4 = a.2.4 ∧ a.2.5 = a.2.5 ∧ a.2.6 = a.2.6 ∧ a.2.7 = a.2.7 ∧ a.2.8 = a.2.8 ∧ True) ∧ (0 : Nat) = (0 : Nat) ∧ (a.2.1.1 = a.2.1.1 ∧ a.2.1.2 = a.2.1.2 ∧
a.2.1.3 = a.2.1.3 ∧ a.2.1.4 = a.2.1.4) ∧ (↑a.2.1.3 : Int) = (↑a.2.1.3 : Int) ∧ x27.1 = x26 ∧ True) ∧ ((True ∧ (a.2.1.1 = a.2.1.1 ∧ a.2.1.2 = a.2.1.2 ∧ a.2.1.3 = a.2.1.3 ∧ a.2.1.4 =
a.2.1.4) ∧ (a.2.2.1 = a.2.2.1 ∧ a.2.2.2 = a.2.2.2 ∧ a.2.2.3 = a.2.2.3 ∧ a.2.2.4 = a.2.2.4) ∧ (a.2.3.1 = a.2.3.1 ∧ a.2.3.2 = a.2.3.2 ∧ a.2.3.3 = a.2.3.3 ∧ a.2.3.4 = a.2.3.4) ∧ a.2.4
= a.2.4 ∧ a.2.5 = a.2.5 ∧ a.2.6 = a.2.6 ∧ a.2.7 = a.2.7 ∧ a.2.8 = a.2.8 ∧ True) ∧ (True ∧ True ∧ (a.1.1.1 = a.1.1.1 ∧ a.1.1.2 = a.1.1.2 ∧ a.1.1.3 = a.1.1.3 ∧ a.1.1.4 = a.1.1.4) ∧
True ∧ True ∧ True ∧ True ∧ True ∧ True ∧ True ∧ True ∧ True ∧ True ∧ (a.1.2.1 = a.1.2.1 ∧ a.1.2.2 = a.1.2.2 ∧ a.1.2.3 = a.1.2.3 ∧ a.1.2.4 = a.1.2.4) ∧ True) ∧ (True ∧ FlatL
a.1.1.5 ∧ a.1.1.5 = a.1.1.5) ∧ (True ∧ FlatL a.1.2.5 ∧ a.1.2.5 = a.1.2.5) ∧ (True ∧ FlatL a.2.1.5 ∧ a.2.1.5 = a.2.1.5) ∧ (True ∧ FlatL a.2.2.5 ∧ a.2.2.5 = a.2.2.5) ∧ (True ∧ FlatL
a.2.3.5 ∧ a.2.3.5 = a.2.3.5) ∧ True) ∧ True))) ∧ (¬x11.1 < (↑a.2.1.3 : Int) → (a.2.4 = (0 : Int) ∧ a.2.5 = (0 : Int) ∧ a.2.6 = (0 : Int) ∧ a.2.7 = (0 : Int) ∧ a.2.8 = (0 : Int) ∧
True → ∃ (x28 : Unit), ((a.2.1.3 = a.1.2.3 ∧ a.2.2.3 = a.1.1.3 ∧ a.2.3.3 = a.1.1.3) ∧ ∀ (x29 : PX) (x30 : List Int), PH a.2 x29 → Sli (Value.int IntKind.i32) (2 : Nat) a.1.2.1
a.1.2.2 a.1.2.3 a.1.2.4 a.1.2.5 x30 → inAll x30 x29.1 a.2.1.3 ∧ (rollZ a.2 ∨ rollOK a.1.2.3 a.1.1.3 a.2 x29)) ∧ (0 : Int) = (0 : Int) ∧ True) ∧ (¬(a.2.4 = (0 : Int) ∧ a.2.5 = (0 :
Int) ∧ a.2.6 = (0 : Int) ∧ a.2.7 = (0 : Int) ∧ a.2.8 = (0 : Int) ∧ True) → (a.2.4 < (0 : Int) → (True ∧ True ∧ True ∧ True ∧ True ∧ True ∧ True ∧ True ∧ True ∧ True ∧ True ∧ True ∧
True ∧ True ∧ True ∧ True ∧ True ∧ True ∧ True ∧ True ∧ True ∧ True ∧ True ∧ True ∧ True ∧ True ∧ True ∧ True ∧ True ∧ True ∧ True ∧ True ∧ True ∧ True ∧ True ∧ True ∧ True ∧ True
∧ True ∧ True ∧ True ∧ True ∧ True ∧ True ∧ True ∧ True) ∧ ∃ (x31 : Unit), ((a.2.1.3 = a.1.2.3 ∧ a.2.2.3 = a.1.1.3 ∧ a.2.3.3 = a.1.1.3) ∧ ∀ (x32 : PX) (x33 : List Int), PH a.2 x32
→ Sli (Value.int IntKind.i32) (2 : Nat) a.1.2.1 a.1.2.2 a.1.2.3 a.1.2.4 a.1.2.5 x33 → ¬(inAll x33 x32.1 a.2.1.3 ∧ (rollZ a.2 ∨ rollOK a.1.2.3 a.1.1.3 a.2 x32))) ∧ (2 : Int) = (2 :
Int) ∧ True) ∧ (¬a.2.4 < (0 : Int) → ∀ (x34 : Int), x34 = (↑a.1.2.3 : Int) → (x34 ≤ a.2.4 → (True ∧ True ∧ True ∧ True ∧ True ∧ True ∧ True ∧ True ∧ True ∧ True ∧ True ∧ True ∧
True ∧ True ∧ True ∧ True ∧ True ∧ True ∧ True ∧ True ∧ True ∧ True ∧ True ∧ True ∧ True ∧ True ∧ True ∧ True ∧ True ∧ True ∧ True ∧ True ∧ True ∧ True ∧ True ∧ True ∧ True ∧ True
∧ True ∧ True ∧ True ∧ True ∧ True ∧ True ∧ True ∧ True) ∧ ∃ (x35 : Unit), ((a.2.1.3 = a.1.2.3 ∧ a.2.2.3 = a.1.1.3 ∧ a.2.3.3 = a.1.1.3) ∧ ∀ (x36 : PX) (x37 : List Int), PH a.2 x36
→ Sli (Value.int IntKind.i32) (2 : Nat) a.1.2.1 a.1.2.2 a.1.2.3 a.1.2.4 a.1.2.5 x37 → ¬(inAll x37 x36.1 a.2.1.3 ∧ (rollZ a.2 ∨ rollOK a.1.2.3 a.1.1.3 a.2 x36))) ∧ (2 : Int) = (2 :
Int) ∧ True) ∧ (¬x34 ≤ a.2.4 → (a.2.5 < (2 : Int) → (True ∧ True ∧ True ∧ True ∧ True ∧ True ∧ True ∧ True ∧ True ∧ True ∧ True ∧ True ∧ True ∧ True ∧ True ∧ True ∧ True ∧ True ∧
True ∧ True ∧ True ∧ True ∧ True ∧ True ∧ True ∧ True ∧ True ∧ True ∧ True ∧ True ∧ True ∧ True ∧ True ∧ True ∧ True ∧ True ∧ True ∧ True ∧ True ∧ True ∧ True ∧ True ∧ True ∧ True
∧ True ∧ True) ∧ ∃ (x38 : Unit), ((a.2.1.3 = a.1.2.3 ∧ a.2.2.3 = a.1.1.3 ∧ a.2.3.3 = a.1.1.3) ∧ ∀ (x39 : PX) (x40 : List Int), PH a.2 x39 → Sli (Value.int IntKind.i32) (2 : Nat)
a.1.2.1 a.1.2.2 a.1.2.3 a.1.2.4 a.1.2.5 x40 → ¬(inAll x40 x39.1 a.2.1.3 ∧ (rollZ a.2 ∨ rollOK a.1.2.3 a.1.1.3 a.2 x39))) ∧ (2 : Int) = (2 : Int) ∧ True) ∧ (¬a.2.5 < (2 : Int) →
((1000 : Int) < a.2.5 → (True ∧ True ∧ True ∧ True ∧ True ∧ True ∧ True ∧ True ∧ True ∧ True ∧ True ∧ True ∧ True ∧ True ∧ True ∧ True ∧ True ∧ True ∧ True ∧ True ∧ True ∧ True ∧
True ∧ True ∧ True ∧ True ∧ True ∧ True ∧ True ∧ True ∧ True ∧ True ∧ True ∧ True ∧ True ∧ True ∧ True ∧ True ∧ True ∧ True ∧ True ∧ True ∧ True ∧ True ∧ True ∧ True) ∧ ∃ (x41 :
Unit), ((a.2.1.3 = a.1.2.3 ∧ a.2.2.3 = a.1.1.3 ∧ a.2.3.3 = a.1.1.3) ∧ ∀ (x42 : PX) (x43 : List Int), PH a.2 x42 → Sli (Value.int IntKind.i32) (2 : Nat) a.1.2.1 a.1.2.2 a.1.2.3
a.1.2.4 a.1.2.5 x43 → ¬(inAll x43 x42.1 a.2.1.3 ∧ (rollZ a.2 ∨ rollOK a.1.2.3 a.1.1.3 a.2 x42))) ∧ (2 : Int) = (2 : Int) ∧ True) ∧ (¬(1000 : Int) < a.2.5 → (True ∧ FlatL a.1.1.5 ∧
FlatL a.1.2.5) ∧ (((0 : Nat) = (0 : Nat) ∧ a.2.6 = a.2.6 ∧ True) ∧ (True ∧ True ∧ (a.1.1.1 = a.1.1.1 ∧ a.1.1.2 = a.1.1.2 ∧ a.1.1.3 = a.1.1.3 ∧ a.1.1.4 = a.1.1.4) ∧ True ∧ True ∧
True ∧ True ∧ True ∧ True ∧ True ∧ True ∧ True ∧ True ∧ (a.1.2.1 = a.1.2.1 ∧ a.1.2.2 = a.1.2.2 ∧ a.1.2.3 = a.1.2.3 ∧ a.1.2.4 = a.1.2.4) ∧ True) ∧ (True ∧ FlatL a.1.1.5 ∧ a.1.1.5 =
a.1.1.5) ∧ (True ∧ FlatL a.1.2.5 ∧ a.1.2.5 = a.1.2.5) ∧ True) ∧ (∀ (x44 : Unit), (0 : Int) ≤ a.2.6 ∧ a.2.6 < (↑a.1.1.3 : Int) → (True ∧ FlatL a.1.1.5 ∧ FlatL a.1.2.5) ∧ (((0 : Nat)
= (0 : Nat) ∧ a.2.7 = a.2.7 ∧ True) ∧ (True ∧ True ∧ (a.1.1.1 = a.1.1.1 ∧ a.1.1.2 = a.1.1.2 ∧ a.1.1.3 = a.1.1.3 ∧ a.1.1.4 = a.1.1.4) ∧ True ∧ True ∧ True ∧ True ∧ True ∧ True ∧
True ∧ True ∧ True ∧ True ∧ (a.1.2.1 = a.1.2.1 ∧ a.1.2.2 = a.1.2.2 ∧ a.1.2.3 = a.1.2.3 ∧ a.1.2.4 = a.1.2.4) ∧ True) ∧ (True ∧ FlatL a.1.1.5 ∧ a.1.1.5 = a.1.1.5) ∧ (True ∧ FlatL
a.1.2.5 ∧ a.1.2.5 = a.1.2.5) ∧ True) ∧ (∀ (x45 : Unit), (0 : Int) ≤ a.2.7 ∧ a.2.7 < (↑a.1.1.3 : Int) → ((0 : Int) ≤ a.2.7 ∧ a.2.7 < (↑a.2.2.3 : Int)) ∧ ∀ (x46 : Nat), x46 = a.2.2.2
+ Int.toNat a.2.7 * (1 : Nat) → ∃ (x47 : Bool), Rd a.2.2.5 (Nat.add x46 (0 : Nat)) (Value.bool x47) ∧ (True ∧ True ∧ True ∧ True ∧ True ∧ True ∧ True ∧ True ∧ True ∧ True ∧ True ∧
True ∧ True ∧ True ∧ True ∧ True ∧ True ∧ True ∧ True ∧ True ∧ True ∧ True ∧ True ∧ True ∧ True ∧ True ∧ True ∧ True ∧ True ∧ True ∧ True ∧ True ∧ True ∧ True ∧ True ∧ True ∧ True
∧ True ∧ True ∧ True ∧ True ∧ True ∧ True ∧ True ∧ True ∧ True) ∧ (x47 = Bool.true → ∃ (x48 : Unit), ((a.2.1.3 = a.1.2.3 ∧ a.2.2.3 = a.1.1.3 ∧ a.2.3.3 = a.1.1.3) ∧ ∀ (x49 : PX)
(x50 : List Int), PH a.2 x49 → Sli (Value.int IntKind.i32) (2 : Nat) a.1.2.1 a.1.2.2 a.1.2.3 a.1.2.4 a.1.2.5 x50 → ¬(inAll x50 x49.1 a.2.1.3 ∧ (rollZ a.2 ∨ rollOK a.1.2.3 a.1.1.3
a.2 x49))) ∧ (2 : Int) = (2 : Int) ∧ True) ∧ (x47 = Bool.false → ∃ (x51 : Unit), ((a.2.1.3 = a.1.2.3 ∧ a.2.2.3 = a.1.1.3 ∧ a.2.3.3 = a.1.1.3) ∧ ∀ (x52 : PX) (x53 : List Int), PH
a.2 x52 → Sli (Value.int IntKind.i32) (2 : Nat) a.1.2.1 a.1.2.2 a.1.2.3 a.1.2.4 a.1.2.5 x53 → inAll x53 x52.1 a.2.1.3 ∧ (rollZ a.2 ∨ rollOK a.1.2.3 a.1.1.3 a.2 x52)) ∧ (0 : Int) =
(0 : Int) ∧ True)) ∧ (∀ (x54 : Unit), ((0 : Int) ≤ a.2.7 ∧ a.2.7 < (↑a.1.1.3 : Int) → False) → (True ∧ True ∧ True ∧ True ∧ True ∧ True ∧ True ∧ True ∧ True ∧ True ∧ True ∧ True ∧
True ∧ True ∧ True ∧ True ∧ True ∧ True ∧ True ∧ True ∧ True ∧ True ∧ True ∧ True ∧ True ∧ True ∧ True ∧ True ∧ True ∧ True ∧ True ∧ True ∧ True ∧ True ∧ True ∧ True ∧ True ∧ True
∧ True ∧ True ∧ True ∧ True ∧ True ∧ True ∧ True ∧ True) ∧ ∃ (x55 : Unit), ((a.2.1.3 = a.1.2.3 ∧ a.2.2.3 = a.1.1.3 ∧ a.2.3.3 = a.1.1.3) ∧ ∀ (x56 : PX) (x57 : List Int), PH a.2 x56
→ Sli (Value.int IntKind.i32) (2 : Nat) a.1.2.1 a.1.2.2 a.1.2.3 a.1.2.4 a.1.2.5 x57 → ¬(inAll x57 x56.1 a.2.1.3 ∧ (rollZ a.2 ∨ rollOK a.1.2.3 a.1.1.3 a.2 x56))) ∧ (2 : Int) = (2 :
Int) ∧ True) ∧ True) ∧ (∀ (x58 : Unit), ((0 : Int) ≤ a.2.6 ∧ a.2.6 < (↑a.1.1.3 : Int) → False) → (True ∧ True ∧ True ∧ True ∧ True ∧ True ∧ True ∧ True ∧ True ∧ True ∧ True ∧ True
∧ True ∧ True ∧ True ∧ True ∧ True ∧ True ∧ True ∧ True ∧ True ∧ True ∧ True ∧ True ∧ True ∧ True ∧ True ∧ True ∧ True ∧ True ∧ True ∧ True ∧ True ∧ True ∧ True ∧ True ∧ True ∧
True ∧ True ∧ True ∧ True ∧ True ∧ True ∧ True ∧ True ∧ True) ∧ ∃ (x59 : Unit), ((a.2.1.3 = a.1.2.3 ∧ a.2.2.3 = a.1.1.3 ∧ a.2.3.3 = a.1.1.3) ∧ ∀ (x60 : PX) (x61 : List Int), PH a.2
x60 → Sli (Value.int IntKind.i32) (2 : Nat) a.1.2.1 a.1.2.2 a.1.2.3 a.1.2.4 a.1.2.5 x61 → ¬(inAll x61 x60.1 a.2.1.3 ∧ (rollZ a.2 ∨ rollOK a.1.2.3 a.1.1.3 a.2 x60))) ∧ (2 : Int) =
(2 : Int) ∧ True) ∧ True)))))))) ∧ True)) ∧ True)) := by kernel_rfl
theorem g_seatsR (a : RlA) : G_seatsR a := by rw [vc_seatsR]; intro x0 e0; exact ⟨(), trivial, e0.symm, trivial⟩
theorem s_seatsR : SpecOK Tryz.prog S_seatsR.spec := fun a => specD_at (an := []) envOK cw0_ok (fun _ => g_seatsR a)
theorem g_seatR (a : RsA) (hg : rlF a.g) : G_seatR a := by
  have hg0 := hg
  obtain ⟨g1, g2⟩ := hg
  rw [vc_seatR]
  exact ⟨fun h => ⟨⟨trivial, hg0⟩, by repeat' first | with_reducible apply And.intro | exact trivial | exact rfl | assumption, fun _ _ => ⟨fun k => ⟨(), ⟨h, k⟩, rfl, trivial⟩, fun k => ⟨(), fun q => k q.2, rfl, trivial⟩⟩, trivial⟩, fun h => ⟨(), fun q => h q.1, rfl, trivial⟩⟩
theorem s_seatR : SpecOK Tryz.prog S_seatR.spec := fun a => specD_at (an := []) envOK (cwX_ok (fun _ h => cwD_ok s_seatsR h) 3) (g_seatR a)
theorem celRd {k : IntKind} {n : Bool} {o l kk : Nat} {c : List Value} {cs : List Int} (h : Sli (Value.int k) 2 n o l kk c cs) {i p x j : Nat} (hi : i < l) (e : x = o + i * 2) (ep : p = x + j) (hj : j < 2) : Rd c (Nat.add p 0) (.int k (cs.getD (2 * i + j) 0)) := by
  have hlen := h.len
  have hl : 2 * i + j < cs.length := by omega
  have := h.at_ (2 * i + j) (cs.getD (2 * i + j) 0) (by simp [List.getD, hl])
  rw [show Nat.add p 0 = o + (2 * i + j) by show p + 0 = _; omega]
  exact this
set_option maxHeartbeats 1600000 in
theorem g_checkR (a : RpA) (x : PX) (cs : List Int) (hg : rlF a.g) (hp : PH a.p x) (hc : Sli (Value.int .i32) 2 a.g.ce.n a.g.ce.o a.g.ce.l a.g.ce.k a.g.ce.c cs) (hm : a.p.s1.l ≤ 1000) : G_checkR a x cs := by
  have hg0 := hg
  obtain ⟨g1, g2⟩ := hg
  have p1 := hp.p1.flat
  have p2 := hp.p2.flat
  have p3 := hp.p3.flat
  have GOOD : (inAll cs x.vars a.p.s1.l ∧ (rollZ a.p ∨ rollOK a.g.ce.l a.g.st.l a.p x)) → ∀ (y : PX) (ds : List Int), PH a.p y → Sli (Value.int .i32) 2 a.g.ce.n a.g.ce.o a.g.ce.l a.g.ce.k a.g.ce.c ds → inAll ds y.vars a.p.s1.l ∧ (rollZ a.p ∨ rollOK a.g.ce.l a.g.st.l a.p y) := fun h y ds hy hd => by rw [PH.uniq hy hp, Sli.uniqI hd hc]; exact h
  have BAD : ¬ (inAll cs x.vars a.p.s1.l ∧ (rollZ a.p ∨ rollOK a.g.ce.l a.g.st.l a.p x)) → ∀ (y : PX) (ds : List Int), PH a.p y → Sli (Value.int .i32) 2 a.g.ce.n a.g.ce.o a.g.ce.l a.g.ce.k a.g.ce.c ds → ¬ (inAll ds y.vars a.p.s1.l ∧ (rollZ a.p ∨ rollOK a.g.ce.l a.g.st.l a.p y)) := fun h y ds hy hd => by rw [PH.uniq hy hp, Sli.uniqI hd hc]; exact h
  rw [vc_checkR]
  intro x0 e0 x1 e1
  refine ⟨fun h => ⟨by repeat' first | with_reducible apply And.intro | exact trivial | exact rfl | assumption, (), fun k => h (by rw [e0, e1, k.1]), rfl, trivial⟩, fun h x3 e3 => ⟨⟨trivial, hg0⟩, by repeat' first | with_reducible apply And.intro | exact trivial | exact rfl | assumption, fun _ _ => ⟨fun h3 => ⟨by repeat' first | with_reducible apply And.intro | exact trivial | exact rfl | assumption, (), fun k => h3 (by rw [e3, k.2.1]), rfl, trivial⟩, fun h3 x6 e6 => ⟨⟨trivial, hg0⟩, by repeat' first | with_reducible apply And.intro | exact trivial | exact rfl | assumption, fun _ _ => ⟨fun h6 => ⟨by repeat' first | with_reducible apply And.intro | exact trivial | exact rfl | assumption, (), fun k => h6 (by rw [e6, k.2.2]), rfl, trivial⟩, fun h6 => ⟨by repeat' first | with_reducible apply And.intro | exact trivial | exact rfl | assumption, fun x9 e9 => ?_⟩⟩, trivial⟩⟩, trivial⟩⟩
  have l1 : a.p.s1.l = a.g.ce.l := by have : (a.p.s1.l : Int) = a.g.ce.l := e0.symm.trans ((Classical.not_not.1 h).trans e1); omega
  have l2 : a.p.s2.l = a.g.st.l := by have : (a.p.s2.l : Int) = a.g.st.l := e3.symm.trans (Classical.not_not.1 h3); omega
  have l3 : a.p.s3.l = a.g.st.l := by have : (a.p.s3.l : Int) = a.g.st.l := e6.symm.trans (Classical.not_not.1 h6); omega
  have hlen : lenOK a := ⟨l1, l2, l3⟩
  have e9' := e9.symm
  refine ⟨⟨0⟩, ⟨⟨Int.le_refl 0, Int.natCast_nonneg _⟩, hlen, fun i hi => absurd hi (Nat.not_lt_zero _)⟩, by repeat' first | with_reducible apply And.intro | exact trivial | exact rfl | assumption, ?_⟩
  rintro ⟨k⟩ ⟨⟨hk0, hk1⟩, _, hin⟩
  dsimp only at hk0 hk1 hin
  have s1l : a.2.1.3 = a.p.s1.l := rfl
  have c1l : a.1.2.3 = a.g.ce.l := rfl
  have st1 : a.1.1.3 = a.g.st.l := rfl
  have g2l : a.2.2.3 = a.p.s2.l := rfl
  refine ⟨fun hlt => ?_, fun hge => ?_⟩
  · have hlt' : k < (a.p.s1.l : Int) := hlt
    have hkc : k.toNat < a.g.ce.l := by omega
    refine ⟨⟨hk0, hlt⟩, fun x12 e12 => ⟨x.vars.getD k.toNat 0, Sli.rdD hp.p1 (by omega) e12, ⟨hk0, by show k < (a.g.ce.l : Int); omega⟩, fun x14 e14 => ⟨⟨by decide, by decide⟩, fun x15 e15 => ⟨cs.getD (2 * k.toNat + 0) 0, celRd hc hkc e14 e15 (by decide), fun hb => ⟨(), ⟨hlen, BAD fun q => ?_⟩, rfl, trivial⟩, fun hb => ⟨⟨hk0, by show k < (a.g.ce.l : Int); omega⟩, fun x20 e20 => ⟨⟨by decide, by decide⟩, fun x21 e21 => ⟨cs.getD (2 * k.toNat + 1) 0, celRd hc hkc e20 e21 (by decide), fun hb2 => ⟨(), ⟨hlen, BAD fun q => ?_⟩, rfl, trivial⟩, fun hb2 x26 e26 => ?_⟩⟩⟩⟩⟩⟩⟩
    · have := (q.1 k.toNat (by omega)).1
      rw [Nat.add_zero] at hb; omega
    · have := (q.1 k.toNat (by omega)).2
      omega
    · have e26 : x26 = IntKind.wrap .i64 (k + 1) := e26
      have e26' : k + 1 = x26 := by rw [e26, wrap_sm (by omega)]
      refine ⟨⟨k + 1⟩, ⟨⟨by show 0 ≤ k + 1; omega, by show k + 1 ≤ (a.p.s1.l : Int); omega⟩, hlen, fun i hi => ?_⟩, by show ((a.p.s1.l : Int) - (k + 1)).toNat < ((a.p.s1.l : Int) - k).toNat; omega, by repeat' first | with_reducible apply And.intro | exact trivial | exact rfl | assumption⟩
      have hi' : i < (k + 1).toNat := hi
      by_cases hik : i < k.toNat
      · exact hin i hik
      · have : i = k.toNat := by omega
        rw [this]; rw [Nat.add_zero] at hb
        exact ⟨by omega, by omega⟩
  · have hkl : k.toNat = a.p.s1.l := by have : ¬ k < (a.p.s1.l : Int) := hge; have : k ≤ (a.p.s1.l : Int) := hk1; omega
    rw [hkl] at hin
    refine ⟨fun hz => ⟨(), ⟨hlen, GOOD ⟨hin, Or.inl ⟨hz.1, hz.2.1, hz.2.2.1, hz.2.2.2.1, hz.2.2.2.2.1⟩⟩⟩, rfl, trivial⟩, fun hz => ?_⟩
    have hnz : ¬ rollZ a.p := fun q => hz ⟨q.1, q.2.1, q.2.2.1, q.2.2.2.1, q.2.2.2.2, trivial⟩
    have BR : ¬ rollOK a.g.ce.l a.g.st.l a.p x → ¬ (inAll cs x.vars a.p.s1.l ∧ (rollZ a.p ∨ rollOK a.g.ce.l a.g.st.l a.p x)) := fun hr q => q.2.elim hnz hr
    refine ⟨fun h1 => ⟨by repeat' first | with_reducible apply And.intro | exact trivial | exact rfl | assumption, (), ⟨hlen, BAD (BR fun q => ?_)⟩, rfl, trivial⟩, fun h1 x34 e34 => ⟨fun h4 => ⟨by repeat' first | with_reducible apply And.intro | exact trivial | exact rfl | assumption, (), ⟨hlen, BAD (BR fun q => ?_)⟩, rfl, trivial⟩, fun h4 => ⟨fun h5 => ⟨by repeat' first | with_reducible apply And.intro | exact trivial | exact rfl | assumption, (), ⟨hlen, BAD (BR fun q => ?_)⟩, rfl, trivial⟩, fun h5 => ⟨fun h7 => ⟨by repeat' first | with_reducible apply And.intro | exact trivial | exact rfl | assumption, (), ⟨hlen, BAD (BR fun q => ?_)⟩, rfl, trivial⟩, fun h7 => ?_⟩⟩⟩⟩
    · have := q.1.1; have : a.p.r0 < 0 := h1; omega
    · have := q.1.2; have : x34 ≤ a.p.r0 := h4; omega
    · have := q.2.1.1; have : a.p.r1 < 2 := h5; omega
    · have := q.2.1.2; have : 1000 < a.p.r1 := h7; omega
    · refine ⟨⟨trivial, hg0⟩, by repeat' first | with_reducible apply And.intro | exact trivial | exact rfl | assumption, fun _ h8 => ⟨⟨trivial, hg0⟩, by repeat' first | with_reducible apply And.intro | exact trivial | exact rfl | assumption, fun _ h9 => ⟨⟨h9.1, by show a.p.r3 < (a.p.s2.l : Int); rw [l2]; exact h9.2⟩, fun x46 e46 => ⟨x.gone.getD a.p.r3.toNat false, ?_, by repeat' first | with_reducible apply And.intro | exact trivial | exact rfl | assumption, fun hb => ⟨(), ⟨hlen, BAD (BR fun q => ?_)⟩, rfl, trivial⟩, fun hb => ⟨(), ⟨hlen, GOOD ⟨hin, Or.inr ⟨⟨?_, ?_⟩, ⟨?_, ?_⟩, h8, h9, hb⟩⟩⟩, rfl, trivial⟩⟩⟩, fun _ h9 => ⟨by repeat' first | with_reducible apply And.intro | exact trivial | exact rfl | assumption, (), ⟨hlen, BAD (BR fun q => h9 q.2.2.2.1)⟩, rfl, trivial⟩, trivial⟩, fun _ h8 => ⟨by repeat' first | with_reducible apply And.intro | exact trivial | exact rfl | assumption, (), ⟨hlen, BAD (BR fun q => h8 q.2.2.1)⟩, rfl, trivial⟩, trivial⟩
      · have h9' : a.p.r3 < (a.g.st.l : Int) := h9.2
        have h90 : 0 ≤ a.p.r3 := h9.1
        have hlg := hp.p2.len
        have hli : a.p.r3.toNat < x.gone.length := by omega
        have := hp.p2.at_ a.p.r3.toNat (x.gone.getD a.p.r3.toNat false) (by simp [List.getD, hli])
        rw [show Nat.add x46 0 = a.p.s2.o + a.p.r3.toNat by rw [e46]; show a.p.s2.o + a.p.r3.toNat * 1 + 0 = _; omega]
        exact this
      · rw [q.2.2.2.2] at hb; cases hb
      · have : ¬ a.p.r0 < 0 := h1; omega
      · have : ¬ x34 ≤ a.p.r0 := h4; have : x34 = (a.g.ce.l : Int) := e34; omega
      · have : ¬ a.p.r1 < 2 := h5; omega
      · have : ¬ 1000 < a.p.r1 := h7; omega
theorem s_checkR : SpecOK Tryz.prog S_checkR.spec := fun a K ⟨hg, ⟨x, hp⟩, ⟨cs, hc⟩, hm⟩ hq => specD_at (an := [some (la_checkR a x cs)]) envOK (cwX_ok (fun _ h => cwD_ok s_seatsR (cwD_ok s_seatR h)) 3) (fun _ => g_checkR a x cs hg hp hc hm) K ⟨hg, ⟨x, hp⟩, ⟨cs, hc⟩, hm⟩ hq
end Go.Proofs.YthcldogebnjohaaGreatDoor
end

/- A stack of one table (what is to be shown). -/
section
set_option maxRecDepth 100000
namespace Go.Proofs.YthcldogebnjohaaGreatDoor
open Go.Ev
-- keep rlF PH rollZ rollOK inAll Go.Ev.Sli Go.Ev.HV sumC rightP inRt okNw wantNw
structure NwA where
  g : RlA
  p : PA
  s : SA
structure NwO where
  b : PB
  s : RW
def NwO.pa (o : NwO) (p : PA) : PA := o.b.pa p
def NwO.sa (o : NwO) (s : SA) : SA := ⟨s.n, 0, s.l, o.s.k, o.s.c⟩
def okNw (a : NwA) : Prop := ∃ x cs, PH a.p x ∧ Sli (Value.int .i32) 2 a.g.ce.n a.g.ce.o a.g.ce.l a.g.ce.k a.g.ce.c cs ∧ (a.p.s1.l = a.g.ce.l → inAll cs x.vars a.p.s1.l) ∧ rollZ a.p ∧ a.p.s2.l = a.g.st.l ∧ a.p.s3.l = a.g.st.l
set_option linter.unusedSectionVars false
variable [Go.Ev.Frozen Tryz.prog]
noncomputable section
def stN (i : Nat) (v : Value) (A : AW) : List (Nat × Nat) := match lv (agv v) 0 with
  | .pointer (some ⟨b, _, _⟩) => (i, b) :: (match lv (rowO A b) 0 with
    | .slice (some ⟨c, _, _⟩) _ _ => (i + 1, c) :: (paN (i + 2) ((rowO A c).drop 1) ++ renS (i + 5) (lv (rowO A c) 9))
    | _ => [])
  | _ => []
def stR (j i : Nat) (p : PA) (s : SA) : List (Nat × PO) :=
  (i, .p (.row [.slice (some ⟨i + 1, 0, none⟩) 1 1] 80 .own)) :: (i + 1, .p (.row (.pointer (some ⟨j, 0, none⟩) :: p.s1.v (i + 2) :: p.s2.v (i + 3) :: p.s3.v (i + 4) :: rolls p ++ [s.v (i + 5)]) 76 .own)) ::
  (i + 2, .f p.s1.c 21 (.grown p.s1.k)) :: (i + 3, .f p.s2.c 4 (.grown p.s2.k)) :: (i + 4, .f p.s3.c 41 (.grown p.s3.k)) :: (i + 5, .f s.c 3 (.grown s.k)) :: []
def errNw (e : Int) : Value := .tuple ⟨[.pointer none, .int .i64 e]⟩
def S_new : SpecD where
  f := 6
  α := NwA
  args a := [.pointer (some ⟨12, 0, none⟩), a.p.v (12 + 3), a.s.v (12 + 6)]
  R a := rlR a.g 12 ++ (a.p.R (12 + 3) 41 ++ [(12 + 6, .f a.s.c 3 .gro)])
  n := 12 + 7
  pre a := rlF a.g ∧ okNw a ∧ (a.p.s1.l ≤ 1000 ∧ a.p.s2.l ≤ 1000 ∧ a.p.s3.l ≤ 1000) ∧ (∃ xs, Sli (Value.int .i64) 1 a.s.n a.s.o a.s.l a.s.k a.s.c xs) ∧ a.s.l ≤ 1000
  outs := [⟨NwO, fun a o => (a.p.s1.l = a.g.ce.l ∧ a.s.l = a.g.st.l) ∧ (∀ xs, Sli (Value.int .i64) 1 a.s.n a.s.o a.s.l a.s.k a.s.c xs → (inRt xs ∧ rightP (sumC xs)) ∧ Sli (Value.int .i64) 1 a.s.n 0 a.s.l o.s.k o.s.c xs) ∧ ∀ x, PH a.p x → PH (o.pa a.p) x,
      fun _ _ => .tuple ⟨[.pointer (some ⟨12 + 7, 0, none⟩), .int .i64 0]⟩, fun a o => stR 12 (12 + 7) (o.pa a.p) (o.sa a.s), fun _ _ => 12 + 13, fun v A => stN (12 + 7) v A⟩,
    ⟨Unit, fun a _ => ¬ (a.p.s1.l = a.g.ce.l ∧ a.s.l = a.g.st.l), fun _ _ => errNw 3, fun _ _ => [], fun _ _ => 12 + 7, fun _ _ => []⟩,
    ⟨Unit, fun a _ => (a.p.s1.l = a.g.ce.l ∧ a.s.l = a.g.st.l) ∧ ∀ xs, Sli (Value.int .i64) 1 a.s.n a.s.o a.s.l a.s.k a.s.c xs → ¬ inRt xs, fun _ _ => errNw 2, fun _ _ => [], fun _ _ => 12 + 7, fun _ _ => []⟩,
    ⟨Unit, fun a _ => (a.p.s1.l = a.g.ce.l ∧ a.s.l = a.g.st.l) ∧ ∀ xs, Sli (Value.int .i64) 1 a.s.n a.s.o a.s.l a.s.k a.s.c xs → inRt xs ∧ ¬ rightP (sumC xs), fun _ _ => errNw 22, fun _ _ => [], fun _ _ => 12 + 7, fun _ _ => []⟩]
  pick v _ := match lv (agv v) 1 with
    | .int _ z => Int.rec (fun n => Bool.rec (Bool.rec (Bool.rec 3 2 (Nat.beq n 2)) 1 (Nat.beq n 3)) 0 (Nat.beq n 0)) (fun _ => 0) z
    | _ => 0
  find l A := rlK A 12 (lv l 0) fun g q => paK A (12 + 3) (agv (lv l 1)) fun p r => saK A (12 + 6) (lv l 2) fun s t => some (⟨g, p, s⟩, q ++ (r ++ t))
def cwNw : CW := cwX (fun c => cwD Tryz.prog S_checkR (cwD Tryz.prog S_seatsR (cwD Tryz.prog S_idx (cwD Tryz.prog S_sum (cwD Tryz.prog S_clone (cwD Tryz.prog S_clint c)))))) 6
def G_new (a : NwA) : Prop := fnW Tryz.prog E0 cwNw [] S_new.f (S_new.args a) (mem (S_new.R a) S_new.n) (endD Tryz.prog S_new a)
end
end Go.Proofs.YthcldogebnjohaaGreatDoor
end
