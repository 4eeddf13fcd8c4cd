/- Tables within tables: a stack of one table (what is to be shown). -/
import Derived.Test.YtfkacmmcgncooaaGreatDoorYd11P
import Derived.RangeFuncNested
import Derived.RangeFuncBound
import Derived.RangeFuncCalls
import Derived.RangeFuncLeaves
import Derived.Shelf.Abstract
import Derived.WalkKit
import Derived.OwnWalkIn
import Derived.TacticsInMore
import Derived.LoopNIn
import Derived.LoopIn
import Derived.RangeFuncBox
import Derived.Deep.OwnRows
import Derived.Lib.SmallJoins
import Derived.Test.YtfkacmmcgncooaaGreatDoorProg
import Derived.Test.YtfkacmmcgncooaaGreatDoorYx0
import Derived.Test.YtfkacmmcgncooaaGreatDoorEnv
import Derived.Test.YtfkacmmcgncooaaGreatDoorEvV
section
set_option maxRecDepth 100000
namespace Go.Proofs.YtfkacmmcgncooaaGreatDoor
open Go.Ev
-- keep Go.Proofs.Tryz.prog turnG isG isGx smQ posG rulG allG cells0 cells1 cells2 cells4 cells5 cells6 cells8 cells9 cells10
structure NwG where
  g : RuA
  p : PoA
  x : Int
  y : Int
set_option linter.unusedSectionVars false
variable [Go.Ev.Frozen Tryz.prog]
noncomputable section
def newL (i : Nat) (a : NwG) : LvV := ⟨i, i + 18, i + 21, a.p.ou a.x a.y⟩
def newR (m : Md) (a : NwG) : List (Nat × PO) := (12 + 16, .p (.row [sc (12 + 17) 1] 81 .own)) :: (12 + 17, .p (.row (lvC (newL 12 a)) 83 m)) :: (12 + 21, .p (.row [tgI .i64 a.x, tgI .i64 a.y] 3 (.grown 2))) :: poR a.p (12 + 18)
def newN (v : Value) (A : AW) : List (Nat × Nat) := let s := ptI (lv (agv v) 0); let j := blI (lv (rowO A s) 0); let c := rowO A j
  [(12 + 16, s), (12 + 17, j), (12 + 18, blI (lv c 1)), (12 + 19, blI (lv c 2)), (12 + 20, blI (lv c 3)), (12 + 21, blI (lv c 9))]
def S_newM (m : Md) : SpecD where
  f := 15
  α := NwG
  args a := [.pointer (some ⟨12, 0, none⟩), poT a.p (12 + 12), sc (12 + 15) 2]
  R a := ruR a.g 12 ++ (poR a.p (12 + 12) ++ [(12 + 15, .p (.row [tgI .i64 a.x, tgI .i64 a.y] 3 .gro))])
  n := 12 + 16
  pre a := isGx a.g a.p ∧ smQ a.x ∧ smQ a.y
  outs := [⟨Unit, fun _ _ => True, fun _ _ => .tuple ⟨[.pointer (some ⟨12 + 16, 0, none⟩), .int .i64 0]⟩, fun a _ => newR m a, fun _ _ => 12 + 22, fun v A => newN v A⟩]
  pick _ _ := 0
  find l A := ruK A 12 (lv l 0) fun g q => poK A (12 + 12) (agv (lv l 1)) fun p r => blK (lv l 2) fun b => rowK A b fun c => wI (lv c 0) fun x => wI (lv c 1) fun y => some (⟨g, p, x, y⟩, (12 + 15, b) :: (q ++ r))
abbrev S_newX : SpecD := S_newM .own
abbrev S_new1 : SpecD := S_newM (.grown 1)
def G_newX (a : NwG) : Prop := fnW Tryz.prog E0 (cwX (fun c => cwD Tryz.prog S_gcheck (cwD Tryz.prog S_gclone (cwE Tryz.prog S_cl2 c))) 7) [] S_newX.f (S_newX.args a) (mem (S_newX.R a) S_newX.n) (endD Tryz.prog S_newX a)
structure BeA where
  w : Int
  x : Int
  y : Int
def S_begin : SpecD where
  f := 9
  α := BeA
  args a := [tgI .u8 a.w, .agg ⟨[tgI .u16 a.x, tgI .u16 a.y]⟩]
  R _ := [(0, .f cells0 327 .ro), (1, .f cells1 333 .ro), (2, .f cells2 356 .ro), (4, .f cells4 327 .ro), (5, .f cells5 368 .ro), (6, .f cells6 381 .ro), (8, .f cells8 385 .ro), (9, .f cells9 388 .ro), (10, .f cells10 389 .ro)]
  n := 12
  pre a := (0 ≤ a.w ∧ a.w < 256) ∧ (0 ≤ a.x ∧ a.x < 65536) ∧ 0 ≤ a.y ∧ a.y < 65536
  outs := [⟨GtA, fun a b => ∃ k : Nat, (k = 0 ∨ k = 1) ∧ (k : Int) = a.w % 2 ∧ isG b.g b.p k 0, fun _ _ => .pointer (some ⟨12, 0, none⟩), fun a b => stR 12 (12 + 1) 1 [loV (12 + 2) (b.p.ou a.x a.y)] ++ (ruT b.g (12 + 2) ++ poR b.p (12 + 14)), fun _ _ => 12 + 18,
    fun v A => let s := ptI v; let j := blI (lv (rowO A s) 0); let c := rowO A j
      (12, s) :: (12 + 1, j) :: (12 + 14, blI (lv c 1)) :: (12 + 15, blI (lv c 2)) :: (12 + 16, blI (lv c 3)) :: (12 + 17, blI (lv c 9)) :: ruN A (12 + 2) (lv c 0)⟩]
  pick _ _ := 0
  find l _ := wI (lv l 0) fun w => wI (lv (agv (lv l 1)) 0) fun x => wI (lv (agv (lv l 1)) 1) fun y => some (⟨w, x, y⟩, [])
def G_begin (a : BeA) : Prop := fnW Tryz.prog E0 (cwX (fun c => cwD Tryz.prog S_startG (cwD Tryz.prog S_new1 c)) 3) [] S_begin.f (S_begin.args a) (mem (S_begin.R a) S_begin.n) (endD Tryz.prog S_begin a)
end
end Go.Proofs.YtfkacmmcgncooaaGreatDoor
end

/- Tables within tables: a stack of one table is as is told. -/
section
set_option maxRecDepth 100000
namespace Go.Proofs.YtfkacmmcgncooaaGreatDoor
open Go.Ev
set_option linter.unusedSectionVars false
variable [Go.Ev.Frozen Tryz.prog]
noncomputable section
def W_G_newX_0 : Option AO := some (AO.row [sc 27 2] 40 Md.own)
def W_G_newX_1 : NwG → Option AO := fun (a : NwG) => some (AO.row [tgI .i64 a.3, tgI .i64 a.4] 3 Md.gro)
def W_G_newX_2 : NwG → Option AO := fun (a : NwG) => some (AO.row [Zp 12 0, sc 24 2, sc 25 2, sc 26 2, tgI .i64 a.2.4, tgI .i64 a.2.5, tgI .i64 a.2.6, tgI .i64 a.2.7, tgI .u64
 a.2.8, sc 27 2] 83 Md.own)
end
set_option maxHeartbeats 3200000 in
abbrev QYn1P_1 (a0 : RuA) : Prop := True ∧ (2 : Int) = 2 ∧ (2 : Int) = 2 ∧ Z2 ∧ (0 = 0 ∧ 1 = 1 ∧ 1 = 1) ∧ (0 = 0 ∧ Z1 a0.1 ∧ Z1 a0.1) ∧ (0 = 0 ∧ Z1 a0.2 ∧ Z1 a0.2) ∧ (0 = 0 ∧ Z1
 a0.3 ∧ Z1 a0.3) ∧ (0 = 0 ∧ Z1 a0.4 ∧ Z1 a0.4) ∧ (0 = 0 ∧ Z1 a0.5 ∧ Z1 a0.5) ∧ Z1 a0.6 ∧ Z1 a0.7 ∧ Z1 a0.8 ∧ Z1 a0.9 ∧ Z1 a0.10 ∧ True
abbrev QYn1P_2 : Prop := True ∧ FlatL [Value.int .i64 1, Value.int .i64 1] ∧ [Value.int .i64 1, Value.int .i64 1] = [Value.int .i64 1, Value.int .i64 1]
abbrev QYn1P_3 : Prop := True ∧ FlatL [Value.int .i32 0, Value.int .i32 0] ∧ [Value.int .i32 0, Value.int .i32 0] = [Value.int .i32 0, Value.int .i32 0]
abbrev QYn1P_4 (a0 : RuA) : Prop := True ∧ True ∧ Z2 ∧ Z1 a0.19.1 ∧ Z1 a0.19.2 ∧ Z1 a0.19.3 ∧ Z1 a0.19.4 ∧ Z1 a0.19.5 ∧ Z1 a0.19.6 ∧ Z1 a0.19.7 ∧ Z1 a0.19.8 ∧ 0 = 0 ∧ (0 = 0 ∧ 1 =
 1 ∧ 1 = 1) ∧ Z2 ∧ True
abbrev QYn1P_5 (a0 : PoA) : Prop := Z2 ∧ Z2 ∧ Z2 ∧ Z1 a0.4 ∧ Z1 a0.5 ∧ Z1 a0.6 ∧ Z1 a0.7 ∧ Z1 a0.8 ∧ True
theorem vc_newX (a : NwG) : G_newX a = ((True ∧ (∃ (x0 x1 : Nat), isG a.1 a.2 x0 x1)) ∧ ((0 = 0 ∧ QYn1P_5 a.2 ∧ True) ∧ QYn1P_4 a.1 ∧ QYn1P_2 ∧ QYn1P_1 a.1 ∧ QYn1P_3 ∧ ZF a.1.11 ∧ ZF a.1.12 ∧ ZF a.1.13 ∧ ZF a.1.14 ∧ ZF
a.1.15 ∧ ZF a.1.16 ∧ ZF a.1.17 ∧ ZF a.1.18 ∧ ZF a.2.1 ∧ ZF a.2.2 ∧ ZF a.2.3 ∧ True) ∧ (∀ (_ : Unit), True → ((W_G_newX_0 = W_G_newX_0 ∧ True) ∧ (W_G_newX_1 a = W_G_newX_1 a ∧ True)
∧ True ∧ True ∧ True ∧ True ∧ True ∧ True) ∧ (0 ≤ a.3 → (a.3 ≤ 1125899906842624 → (0 ≤ a.4 → (a.4 ≤ 1125899906842624 → (∀ (x3 : Int), x3 = IntKind.wrap .i64 ((0 : Int) + a.3) → ∀
(x4 : Int), x4 = IntKind.wrap .i64 (x3 + a.4) → ((0 : Int) ≤ x4 → (x4 ≤ (1125899906842624 : Int) → (True ∧ (∃ (x5 x6 : Nat), (x5, x6) ∈ allG ∧ PoA.mk a.2.1 a.2.2 a.2.3 a.2.4 a.2.5
a.2.6 a.2.7 a.2.8 = posG x5 x6)) ∧ ((QYn1P_5 a.2 ∧ True) ∧ ZF a.2.1 ∧ ZF a.2.2 ∧ ZF a.2.3 ∧ True) ∧ (∀ (_ : Unit), True → (True ∧ (2 ≤ nat_lit 2 ∧ nat_lit 0 + 2 ≤ List.length [tgI
.i64 a.3, tgI .i64 a.4] ∧ FlatL [tgI .i64 a.3, tgI .i64 a.4]) ∧ (∃ (x8 x9 : Int), lwin [tgI .i64 a.3, tgI .i64 a.4] (nat_lit 0) 2 = [tgI .i64 x8, tgI .i64 x9])) ∧ (((false = false
∧ nat_lit 0 = 0 ∧ 2 = 2 ∧ nat_lit 2 = 2) ∧ True) ∧ (True ∧ FlatL [tgI .i64 a.3, tgI .i64 a.4] ∧ [tgI .i64 a.3, tgI .i64 a.4] = [tgI .i64 a.3, tgI .i64 a.4]) ∧ True) ∧ (∀ (x10 :
XyB), lwin [tgI .i64 a.3, tgI .i64 a.4] (nat_lit 0) 2 = [tgI .i64 x10.1, tgI .i64 x10.2] → ((True ∧ True ∧ True) ∧ (True ∧ True ∧ True) ∧ (True ∧ True ∧ True) ∧ (W_G_newX_2 a =
W_G_newX_2 a ∧ W_G_newX_2 a = W_G_newX_2 a ∧ True) ∧ True ∧ True ∧ True ∧ True ∧ True ∧ (True ∧ True) ∧ (True ∧ True) ∧ (True ∧ True) ∧ (W_G_newX_2 a = W_G_newX_2 a ∧ True) ∧ True
∧ True ∧ True ∧ True) ∧ ∃ (_ : Unit), True ∧ (0 = 0 ∧ (0 : Int) = 0 ∧ True) ∧ (True ∧ (0 = 0 ∧ 1 = 1 ∧ 1 = 1) ∧ True) ∧ (True ∧ 0 = 0 ∧ Z2 ∧ Z2 ∧ Z2 ∧ Z1 a.2.4 ∧ Z1 a.2.5 ∧ Z1
a.2.6 ∧ Z1 a.2.7 ∧ Z1 a.2.8 ∧ Z2 ∧ True) ∧ (2 = 2 ∧ a.3 = x10.1 ∧ a.4 = x10.2 ∧ True) ∧ ZF a.2.1 ∧ ZF a.2.2 ∧ ZF a.2.3 ∧ True) ∧ True) ∧ True) ∧ (¬(x4 ≤ (1125899906842624 : Int)) →
(∃ (_ : Unit), True ∧ False))) ∧ (¬((0 : Int) ≤ x4) → ∃ (_ : Unit), True ∧ False))) ∧ (¬(a.4 ≤ 1125899906842624) → (∃ (_ : Unit), True ∧ False))) ∧ (¬(0 ≤ a.4) → (∃ (_ : Unit),
True ∧ False))) ∧ (¬(a.3 ≤ 1125899906842624) → (∃ (_ : Unit), True ∧ False))) ∧ (¬(0 ≤ a.3) → ∃ (_ : Unit), True ∧ False)) ∧ True) := by kernel_rfl
set_option maxHeartbeats 3200000 in
theorem vc_begin (a : BeA) : G_begin a = ((True ∧ 0 ≤ a.1 ∧ a.1 < 256) ∧ ((Z1 a.1 ∧ True) ∧ ZF cells0 ∧ ZF cells1 ∧ ZF cells2 ∧ ZF cells4 ∧ ZF cells5 ∧ ZF cells6 ∧ ZF cells8 ∧ ZF cells9 ∧ ZF cells10 ∧ True) ∧ (∀ (x0 :
GtA), (∃ (x1 : Nat), (x1 = 0 ∨ x1 = 1) ∧ (↑x1 : Int) = a.1 % (2 : Int) ∧ isG x0.1 x0.2 x1 0) → ∀ (x2 : Int), x2 = IntKind.wrap .i64 a.2 → ∀ (x3 : Int), x3 = IntKind.wrap .i64 a.3 →
(True ∧ isGx x0.1 x0.2 ∧ smQ x2 ∧ smQ x3) ∧ ((0 = 0 ∧ QYn1P_5 x0.2 ∧ Z2 ∧ True) ∧ QYn1P_4 x0.1 ∧ QYn1P_2 ∧ QYn1P_1 x0.1 ∧ QYn1P_3 ∧ ZF x0.1.11 ∧ ZF x0.1.12 ∧ ZF x0.1.13 ∧ ZF
x0.1.14 ∧ ZF x0.1.15 ∧ ZF x0.1.16 ∧ ZF x0.1.17 ∧ ZF x0.1.18 ∧ ZF x0.2.1 ∧ ZF x0.2.2 ∧ ZF x0.2.3 ∧ (True ∧ x2 = x2 ∧ x3 = x3 ∧ True) ∧ True) ∧ (∀ (_ : Unit), True → ∃ (x5 : GtA), (∃
(x6 : Nat), (x6 = 0 ∨ x6 = 1) ∧ (↑x6 : Int) = a.1 % (2 : Int) ∧ isG x5.1 x5.2 x6 0) ∧ 0 = 0 ∧ (True ∧ (0 = 0 ∧ 1 = 1 ∧ 1 = 1) ∧ True) ∧ (1 = 1 ∧ 0 = 0 ∧ Z2 ∧ Z2 ∧ Z2 ∧ x5.2.4 =
x0.2.4 ∧ x5.2.5 = x0.2.5 ∧ x5.2.6 = x0.2.6 ∧ x5.2.7 = x0.2.7 ∧ x5.2.8 = x0.2.8 ∧ Z2 ∧ True) ∧ (2 = 2 ∧ a.2 = x2 ∧ a.3 = x3 ∧ True) ∧ (True ∧ True ∧ Z2 ∧ x5.1.19.1 = x0.1.19.1 ∧
x5.1.19.2 = x0.1.19.2 ∧ x5.1.19.3 = x0.1.19.3 ∧ x5.1.19.4 = x0.1.19.4 ∧ x5.1.19.5 = x0.1.19.5 ∧ x5.1.19.6 = x0.1.19.6 ∧ x5.1.19.7 = x0.1.19.7 ∧ x5.1.19.8 = x0.1.19.8 ∧ 0 = 0 ∧ (0 =
0 ∧ 1 = 1 ∧ 1 = 1) ∧ Z2 ∧ True) ∧ QYn1P_2 ∧ (True ∧ (2 : Int) = 2 ∧ (2 : Int) = 2 ∧ Z2 ∧ (0 = 0 ∧ 1 = 1 ∧ 1 = 1) ∧ (0 = 0 ∧ x5.1.1 = x0.1.1 ∧ x5.1.1 = x0.1.1) ∧ (0 = 0 ∧ x5.1.2 =
x0.1.2 ∧ x5.1.2 = x0.1.2) ∧ (0 = 0 ∧ x5.1.3 = x0.1.3 ∧ x5.1.3 = x0.1.3) ∧ (0 = 0 ∧ x5.1.4 = x0.1.4 ∧ x5.1.4 = x0.1.4) ∧ (0 = 0 ∧ x5.1.5 = x0.1.5 ∧ x5.1.5 = x0.1.5) ∧ x5.1.6 =
x0.1.6 ∧ x5.1.7 = x0.1.7 ∧ x5.1.8 = x0.1.8 ∧ x5.1.9 = x0.1.9 ∧ x5.1.10 = x0.1.10 ∧ True) ∧ QYn1P_3 ∧ (True ∧ FlatL x5.1.11 ∧ x5.1.11 = x0.1.11) ∧ (True ∧ FlatL x5.1.12 ∧ x5.1.12 =
x0.1.12) ∧ (True ∧ FlatL x5.1.13 ∧ x5.1.13 = x0.1.13) ∧ (True ∧ FlatL x5.1.14 ∧ x5.1.14 = x0.1.14) ∧ (True ∧ FlatL x5.1.15 ∧ x5.1.15 = x0.1.15) ∧ (True ∧ FlatL x5.1.16 ∧ x5.1.16 =
x0.1.16) ∧ (True ∧ FlatL x5.1.17 ∧ x5.1.17 = x0.1.17) ∧ (True ∧ FlatL x5.1.18 ∧ x5.1.18 = x0.1.18) ∧ (True ∧ FlatL x5.2.1 ∧ x5.2.1 = x0.2.1) ∧ (True ∧ FlatL x5.2.2 ∧ x5.2.2 =
x0.2.2) ∧ (True ∧ FlatL x5.2.3 ∧ x5.2.3 = x0.2.3) ∧ True) ∧ True) ∧ True) := by kernel_rfl
theorem g_newX (a : NwG) (hp : isGx a.g a.p) (hx : smQ a.x) (hy : smQ a.y) : GW (G_newX a) := by
  obtain ⟨k, j, hi⟩ := hp
  obtain ⟨x1, x2⟩ := hx
  obtain ⟨y1, y2⟩ := hy
  obtain ⟨f1, f2, f3, f4, f5, f6, f7, f8, f9, f10, f11⟩ := flG_of hi
  have f12 := fl11
  have f13 := fl00
  have f14 := fl2t a.x a.y
  refine ⟨?_⟩
  rw [vc_newX]
  (repeat(apply And.intro;focus(and_intros<;>first|trivial|rfl)))
  refine ⟨⟨trivial, k, j, hi⟩, by (and_intros<;>first|trivial|rfl), fun _ _ => ?_, trivial⟩
  (repeat(apply And.intro;focus(and_intros<;>first|trivial|rfl)))
  refine ⟨fun _ => ⟨fun _ => ?_, fun h => absurd (by omega) h⟩, fun h => absurd x1 h⟩
  (repeat(apply And.intro;focus(and_intros<;>first|trivial|rfl)))
  refine ⟨fun _ => ⟨fun _ => ?_, fun h => absurd (by omega) h⟩, fun h => absurd y1 h⟩
  (repeat(apply And.intro;focus(and_intros<;>first|trivial|rfl)))
  intro x3 e3 x4 e4
  rw [wr64 (by omega)] at e3 e4
  refine ⟨fun _ => ⟨fun _ => ?_, fun h => absurd (by omega) h⟩, fun h => absurd (by omega) h⟩
  (repeat(apply And.intro;focus(and_intros<;>first|trivial|rfl)))
  refine ⟨⟨trivial, k, j, hi.1, hi.2.2⟩, by (and_intros<;>first|trivial|rfl), fun _ _ => ?_, trivial⟩
  (repeat(apply And.intro;focus(and_intros<;>first|trivial|rfl)))
  refine ⟨⟨trivial, ⟨Nat.le_refl _, Nat.le_refl _, f14⟩, a.x, a.y, rfl⟩, by (and_intros<;>first|trivial|rfl), fun q hq => ?_, trivial⟩
  have hq : [tgI .i64 a.x, tgI .i64 a.y] = [tgI .i64 q.x, tgI .i64 q.y] := hq
  have e5 : a.x = q.x := by injection hq with h1 h2; injection h1 with _ h1; injection h1
  have e6 : a.y = q.y := by injection hq with h1 h2; injection h2 with h2 _; injection h2 with _ h2; injection h2
  (repeat(apply And.intro;focus(and_intros<;>first|trivial|rfl)))
  refine ⟨(), ?_⟩
  (and_intros<;>first|trivial|rfl)
theorem s_newX : SpecOK Tryz.prog S_newX.spec := fun a => specG_at (S := S_newX) (an := []) envOK (cwX_ok (fun _ h => cwD_ok s_gcheck (cwD_ok s_gclone (cwE_ok s_cl2 h))) 7) fun hp => g_newX a hp.1 hp.2.1 hp.2.2
theorem lv_size : (Tryz.prog.info? 83).map (fun t => t.size) = some 10 := by kernel_rfl
theorem new_lv (a : NwG) : (mem (newR .own a) (12 + 22)).heap.get (12 + 17) = some (.row (lvC (newL 12 a)) 83 .own) := by kernel_rfl
theorem new_mem (a : NwG) : (⟨(mem (newR .own a) (12 + 22)).heap.set (12 + 17) (.row (lvC (newL 12 a)) 83 (.grown 1)), 12 + 22⟩ : AW) = mem (newR (.grown 1) a) (12 + 22) := by kernel_rfl
theorem s_new1 : SpecOK Tryz.prog S_new1.spec := fun a K hp hq => by
  obtain ⟨k, j, hi⟩ := id hp.1
  obtain ⟨-, -, -, -, -, -, -, -, f9, f10, f11⟩ := flG_of hi
  obtain ⟨v, R', n', ⟨rfl, rfl, rfl⟩, hfR, hsem⟩ := s_newX a (fun v R' n' => v = .tuple ⟨[.pointer (some ⟨12 + 16, 0, none⟩), .int .i64 0]⟩ ∧ R' = newR .own a ∧ n' = 12 + 22) hp ⟨fun _ _ => ⟨rfl, rfl, rfl⟩, trivial⟩
  have h := fnSem_grown (i := 12 + 17) (k := 1) hsem (new_lv a) (fun t ht => by
    have := lv_size
    rw [ht] at this
    have this : t.size = 10 := by injection this
    rw [this]; rfl)
  rw [show (⟨(tput PO.ao (newR .own a)).set (12 + 17) (.row (lvC (newL 12 a)) 83 (.grown 1)), 12 + 22⟩ : AW) = mem (newR (.grown 1) a) (12 + 22) from new_mem a] at h
  refine ⟨_, _, _, hq.1 () trivial, fun i c e m hm => hfR i c e m ?_, h⟩
  rcases List.mem_cons.1 hm with h | hm
  · cases h
  rcases List.mem_cons.1 hm with h | hm
  · cases h
  exact List.mem_cons_of_mem _ (List.mem_cons_of_mem _ hm)
theorem wrU {x : Int} (h : 0 ≤ x ∧ x < 65536) : IntKind.wrap .i64 x = x := wr64 (by omega)
theorem g_begin (a : BeA) (hw : 0 ≤ a.w ∧ a.w < 256) (hx : 0 ≤ a.x ∧ a.x < 65536) (hy : 0 ≤ a.y ∧ a.y < 65536) : GW (G_begin a) := by
  have f12 := fl11
  have f13 := fl00
  have gl0 : FlatL cells0 := flatAll (by kernel_rfl)
  have gl1 : FlatL cells1 := flatAll (by kernel_rfl)
  have gl2 : FlatL cells2 := flatAll (by kernel_rfl)
  have gl4 : FlatL cells4 := flatAll (by kernel_rfl)
  have gl5 : FlatL cells5 := flatAll (by kernel_rfl)
  have gl6 : FlatL cells6 := flatAll (by kernel_rfl)
  have gl8 : FlatL cells8 := flatAll (by kernel_rfl)
  have gl9 : FlatL cells9 := flatAll (by kernel_rfl)
  have gl10 : FlatL cells10 := flatAll (by kernel_rfl)
  refine ⟨?_⟩
  rw [vc_begin]
  (repeat(apply And.intro;focus(and_intros<;>first|trivial|rfl)))
  refine ⟨⟨trivial, hw⟩, by (and_intros<;>first|trivial|rfl), fun r hr => ?_, trivial⟩
  obtain ⟨k2, q1, q2, hi2⟩ := id hr
  obtain ⟨g1, g2, g3, g4, g5, g6, g7, g8, g9, g10, g11⟩ := flG_of hi2
  (repeat(apply And.intro;focus(and_intros<;>first|trivial|rfl)))
  intro x2 e2 x3 e3
  rw [wrU hx] at e2
  rw [wrU hy] at e3
  (repeat(apply And.intro;focus(and_intros<;>first|trivial|rfl)))
  refine ⟨⟨trivial, ⟨k2, 0, hi2⟩, by unfold smQ; omega, by unfold smQ; omega⟩, by (and_intros<;>first|trivial|rfl), fun _ _ => ?_, trivial⟩
  have e2 := e2.symm
  have e3 := e3.symm
  (repeat(apply And.intro;focus(and_intros<;>first|trivial|rfl)))
  refine ⟨r, hr, ?_⟩
  (and_intros<;>first|trivial|rfl)
theorem s_begin : SpecOK Tryz.prog S_begin.spec := fun a => specG_at (an := []) envOK (cwX_ok (fun _ h => cwD_ok s_startG (cwD_ok s_new1 h)) 3) fun hp => g_begin a hp.1 hp.2.1 hp.2.2
end Go.Proofs.YtfkacmmcgncooaaGreatDoor
end

/- Tables within tables: from the innermost one on (a range over a function): what comes. -/
section
set_option maxRecDepth 100000
namespace Go.Proofs.YtfkacmmcgncooaaGreatDoor
open Go.RowKit Go.Shelf
attribute [local go_sem] Oper.semAt_some
def dn (M k : Nat) : List (Fin (M + 1)) := (List.range k).map fun j => ⟨M - j, by omega⟩
theorem dn_succ (M k : Nat) : dn M (k + 1) = dn M k ++ [⟨M - k, by omega⟩] := by simp [dn, List.range_succ]
theorem dn_length (M k : Nat) : (dn M k).length = k := by simp [dn]
def KpO (n₀ B : Nat) (W W' : World) : Prop := Below n₀ W W' ∧ W'.heap[B]? = W.heap[B]?
theorem kpO_t {n₀ B : Nat} {A C D : World} (h : KpO n₀ B A C) (k : KpO n₀ B C D) : KpO n₀ B A D := ⟨h.1.trans k.1, k.2.trans h.2⟩
set_option maxHeartbeats 2000000 in
theorem outward1_in (F : Fence) (n : Nat) (h85 : F.fn 77) (hro : F.round = none) (hn : 1 ≤ n) (l B bs bl cap M n₀ : Nat) (hbs : bs < n₀) (hM : M ≤ 1000) (J Jx : List (Fin (M + 1)) → World → Prop)
    (hY : ∀ pre x W, J pre W → pre.length < M + 1 → YieldAt F (n - 1) Tryz.prog l #[.int .i64 (x.1 : Int), .pointer (some ⟨bl, x.1 * 10, none⟩)] W fun e W' =>
      (e = .returned (.bool true) ∧ J (pre ++ [x]) W' ∧ KpO n₀ B W W') ∨ (e = .returned (.bool false) ∧ Jx (pre ++ [x]) W'))
    (W : World) (hB : W.cell? ⟨B, 0, none⟩ = some (.pointer (some ⟨bs, 0, none⟩))) (hs : W.cell? ⟨bs, 0, none⟩ = some (.slice (some ⟨bl, 0, none⟩) (M + 1) cap)) (h0 : J [] W) :
    CallsIn F n Tryz.prog 77 #[.func (.yield l) #[] #[], .pointer (some ⟨B, 0, none⟩)] W fun e W' => (∃ v, e = .returned v) ∧
      ((∃ ys, ys = dn M (M + 1) ∧ J ys W') ∨ (∃ pre, (∃ k, k ≤ M + 1 ∧ pre = dn M k) ∧ Jx pre W')) := by
  refine callsIn_of_wp Tryz.func77 rfl h85 ?_ hro
  simp only [Tryz.ntmps77, List.size_toArray, List.length_cons, List.length_nil, Nat.reduceAdd, Nat.reduceSub, Array.replicate_succ, Array.replicate_zero, List.push_toArray, List.append_toArray, List.nil_append, List.cons_append]
  gi_wp2
  gi_loopw [3] (fun i wr => ∃ k : Nat, k ≤ M + 1 ∧ i = .int .i64 ((M : Int) - k) ∧ J (dn M k) wr ∧ KpO n₀ B W wr)
    (fun i _ => (1 + intOf i).toNat)
  case atStart => exact ⟨0, by omega, by simp, h0, Below.refl _ _, rfl⟩
  case round =>
    obtain ⟨k, hk, rfl, hJs, hnx⟩ := hrel
    have hBr : wr.cell? ⟨B, 0, none⟩ = some (.pointer (some ⟨bs, 0, none⟩)) := by simp only [World.cell?, hnx.2]; exact hB
    have hsr : wr.cell? ⟨bs, 0, none⟩ = some (.slice (some ⟨bl, 0, none⟩) (M + 1) cap) := (hnx.1.cell (p := ⟨bs, 0, none⟩) hbs).trans hs
    by_cases hlt : k ≤ M
    · obtain ⟨fn, tmps, assign, body, hy, hR⟩ := hY _ ⟨M - k, by omega⟩ wr hJs (by rw [dn_length]; omega)
      dsimp only at hy
      rw [show ((M - k : Nat) : Int) = (M : Int) - k by omega] at hy
      gi_wp2
      refine hR.mono ?_
      rintro e W3 (⟨rfl, hJ3, hk3⟩ | ⟨rfl, hJx3⟩)
      · gi_wp2
        go_roundw
        case rel => exact ⟨k + 1, by omega, by simp; omega, by rw [dn_succ]; exact hJ3, kpO_t hnx hk3⟩
        case measure => simp [intOf]; omega
      · gi_wp2
        refine bodyPost_ret (results_none rfl _ _ _) rfl ?_
        exact ⟨⟨_, rfl⟩, .inr ⟨_, ⟨k + 1, by omega, (dn_succ _ _).symm⟩, hJx3⟩⟩
    · obtain rfl : k = M + 1 := by omega
      gi_wp2
      go_end0
      exact ⟨⟨_, rfl⟩, .inl ⟨_, rfl, hJs⟩⟩
set_option maxHeartbeats 1000000 in
theorem outward_in (F : Fence) (n : Nat) (h59 : F.fn 60) (hro : F.round = none) (bs : Nat) (w : World) :
    CallsIn F n Tryz.prog 60 #[.pointer (some ⟨bs, 0, none⟩)] w fun e w' => e = .returned (.func (.func 77) #[] #[.pointer (some ⟨w.heap.size, 0, none⟩)]) ∧ w' = w.alloc (.cells #[.pointer (some ⟨bs, 0, none⟩)] 27) := by
  refine callsIn_of_wp Tryz.func60 rfl h59 ?_ hro
  simp only [Tryz.ntmps60, List.size_toArray, List.length_cons, List.length_nil, Nat.reduceAdd, Nat.reduceSub, Array.replicate_succ, Array.replicate_zero, List.push_toArray, List.append_toArray, List.nil_append, List.cons_append]
  gi_wp2
  go_ret
  exact ⟨rfl, rfl⟩
theorem outward_stops (F : Fence) (n : Nat) (h85 : F.fn 77) (hro : F.round = none) (hn : 1 ≤ n) (B bs bl cap M n₀ : Nat) (hbs : bs < n₀) (hM : M ≤ 1000) (w : World) (hBw : B < w.heap.size) (hn₀ : n₀ ≤ w.heap.size)
    (hB : w.cell? ⟨B, 0, none⟩ = some (.pointer (some ⟨bs, 0, none⟩))) (hs : w.cell? ⟨bs, 0, none⟩ = some (.slice (some ⟨bl, 0, none⟩) (M + 1) cap)) :
    SeqStopsK F n Tryz.prog 77 #[.pointer (some ⟨B, 0, none⟩)] (fun x : Fin (M + 1) => #[.int .i64 (x.1 : Int), .pointer (some ⟨bl, x.1 * 10, none⟩)]) (KpO n₀ B) (fun ys => ys = dn M (M + 1)) (fun pre => ∃ k, k ≤ M + 1 ∧ pre = dn M k) (M + 1) w := fun l J Jx W hW _ _ hY h0 =>
  outward1_in F n h85 hro hn l B bs bl cap M n₀ hbs hM J Jx hY W ((hW.cell (p := ⟨B, 0, none⟩) hBw).trans hB) ((hW.cell (p := ⟨bs, 0, none⟩) (by show bs < _; omega)).trans hs) h0
def wsum (l : List Int) : Int := l.foldl (fun s v => wrap64 (s + v)) 0
theorem wsum_snoc (l : List Int) (x : Int) : wsum (l ++ [x]) = wrap64 (wsum l + x) := by simp [wsum]
theorem run_mk2 (W : World) : (Instr.makeSlice 40 (.int .i64 2) (.int .i64 2)).run Tryz.prog W = .ok (.slice (some ⟨W.heap.size, 0, none⟩) 2 2) (W.alloc (.cells #[.int .i64 0, .int .i64 0] 3)) := by
  have h := Go.run_make_row' (P := Tryz.prog) 40 3 (.int .i64 0) 8 Tryz.underlying40 (by kernel_rfl) rfl .i64 .i64 2 (by decide) (by decide) W
  have e : madeCells #[Value.int .i64 0] 2 = #[.int .i64 0, .int .i64 0] := Array.toList_inj.1 ((toList_madeCells_one _ _).trans (by simp [List.replicate]))
  rw [e] at h
  exact h
theorem heap3 (w : World) (o1 o2 o3 : Obj) : (((w.alloc o1).alloc o2).alloc o3).heap[w.heap.size]? = some o1 ∧ (((w.alloc o1).alloc o2).alloc o3).heap[w.heap.size + 1]? = some o2 ∧ (((w.alloc o1).alloc o2).alloc o3).heap[w.heap.size + 1 + 1]? = some o3 := by
  have k1 := World.alloc_heap_new w o1
  have k2 := World.alloc_heap_new (w.alloc o1) o2
  have k3 := World.alloc_heap_new ((w.alloc o1).alloc o2) o3
  rw [World.size_alloc] at k2
  rw [World.size_alloc, World.size_alloc] at k3
  refine ⟨?_, ?_, k3⟩
  · rw [Below.heap_alloc _ _ _ (by rw [World.size_alloc, World.size_alloc]; omega), Below.heap_alloc _ _ _ (by rw [World.size_alloc]; omega)]; exact k1
  · rw [Below.heap_alloc _ _ _ (by rw [World.size_alloc, World.size_alloc]; omega)]; exact k2
theorem blk_kept {W W' : World} {k : Nat} {c : Array Value} {e : TypeId} {fz : Nat × Nat} {row : Option Nat} (h : W.heap[k]? = some (.cells c e fz)) (hg : W.grownBy W' row) (hr : ∀ r, row = some r → ∃ o : Obj, W.heap[r]? = some o ∧ o.isCells = false) : W'.heap[k]? = some (.cells c e fz) :=
  (hg.block k (Array.getElem?_eq_some_iff.1 h).1 (fun e => by obtain ⟨o, ho, hc⟩ := hr k e.symm; rw [h] at ho; cases ho; cases hc)).trans h
theorem cell_of {W : World} {k i : Nat} {c : Array Value} {e : TypeId} {fz : Nat × Nat} {v : Value} (h : W.heap[k]? = some (.cells c e fz)) (hv : c[i]? = some v) : W.cell? ⟨k, i, none⟩ = some v := by simp [World.cell?, h, hv]
theorem free_of {W : World} {k i : Nat} {c : Array Value} {e : TypeId} (h : W.heap[k]? = some (.cells c e)) : W.frozen? ⟨k, i, none⟩ = false := by simp [World.frozen?, h]
theorem set_blk {W : World} {k i : Nat} {c : Array Value} {e : TypeId} {v : Value} (h : W.heap[k]? = some (.cells c e)) : (W.setCell ⟨k, i, none⟩ v).heap[k]? = some (.cells (c.setIfInBounds i v) e) := Go.Joins.block_setCell h _
set_option maxHeartbeats 4000000 in
theorem held_in (F : Fence) (n : Nat) (h15 : F.fn 19) (h59 : F.fn 60) (h85 : F.fn 77) (hro : F.round = none) (hn : 3 ≤ n) (bs bl cap M : Nat) (fa fb : Nat → Int) (w : World) (hM : M ≤ 1000)
    (hs : w.cell? ⟨bs, 0, none⟩ = some (.slice (some ⟨bl, 0, none⟩) (M + 1) cap)) (hl : ∀ i, i ≤ M → ∃ b c, w.cell? ⟨bl, i * 10 + 9, none⟩ = some (.slice (some ⟨b, 0, none⟩) 2 c) ∧ w.cell? ⟨b, 0, none⟩ = some (.int .i64 (fa i)) ∧ w.cell? ⟨b, 1, none⟩ = some (.int .i64 (fb i))) :
    CallsIn F n Tryz.prog 19 #[.pointer (some ⟨bs, 0, none⟩)] w fun e w' => ∃ nb, e = .returned (.slice (some ⟨nb, 0, none⟩) 2 2) ∧ w.heap.size ≤ nb ∧
      w'.heap[nb]? = some (.cells #[.int .i64 (wsum ((dn M (M + 1)).map fun i => fa i.1)), .int .i64 (wsum ((dn M (M + 1)).map fun i => fb i.1))] 3) ∧ Below w.heap.size w w' := by
  have hn1 : 1 ≤ n := by omega
  have hmk := run_mk2
  obtain ⟨b0, k0, hl0, -, -⟩ := hl 0 (Nat.zero_le _)
  simp only [Nat.zero_mul, Nat.zero_add] at hl0
  refine callsIn_of_wp_marks Tryz.func19 rfl h15 ?_ hro
  simp only [Tryz.ntmps19, List.size_toArray, List.length_cons, List.length_nil, Nat.reduceAdd, Nat.reduceSub, Array.replicate_succ, Array.replicate_zero, List.push_toArray, List.append_toArray, List.nil_append, List.cons_append]
  gi_wp2_with (gi_at_call 60; refine (outward_in F (n - 1) h59 hro _ _).mono ?_; rintro e w' ⟨rfl, rfl⟩)
  obtain ⟨W0, hW0⟩ : ∃ W0, (((w.alloc (Obj.cells #[Value.int IntKind.i64 0, Value.int IntKind.i64 0] 3)).alloc (Obj.cells #[Value.slice (some { block := w.heap.size, off := 0 }) 2 2] 40)).alloc (Obj.cells #[Value.pointer (some { block := bs, off := 0 })] 27)) = W0 := ⟨_, rfl⟩
  rw [hW0]
  have hsz : W0.heap.size = w.heap.size + 3 := by rw [← hW0]; simp
  have hB0 : Below w.heap.size w W0 := by rw [← hW0]; exact (((Below.refl _ w).alloc (Nat.le_refl _) _).alloc (by simp) _).alloc (by simp; omega) _
  have g0 : W0.heap[w.heap.size]? = some (.cells #[.int .i64 0, .int .i64 0] 3) := by rw [← hW0]; exact (heap3 _ _ _ _).1
  have g1 : W0.heap[w.heap.size + 1]? = some (.cells #[.slice (some ⟨w.heap.size, 0, none⟩) 2 2] 40) := by rw [← hW0]; exact (heap3 _ _ _ _).2.1
  have g2 : W0.heap[w.heap.size + 1 + 1]? = some (.cells #[.pointer (some ⟨bs, 0, none⟩)] 27) := by rw [← hW0]; exact (heap3 _ _ _ _).2.2
  have ltc : ∀ {a : Addr} {v : Value}, w.cell? a = some v → a.block < w.heap.size := fun {a v} h => by
    unfold World.cell? at h
    cases ho : w.heap[a.block]? with
    | none => simp [ho] at h
    | some o => exact (Array.getElem?_eq_some_iff.1 ho).1
  refine wpIn_rangeFunc_ownF hro hn1 (gf := 77) (lb := #[.pointer (some ⟨w.heap.size + 1 + 1, 0, none⟩)]) rfl h85 (enters_of Tryz.func77 (by kernel_rfl) rfl)
    (outward_stops F (n - 1) h85 hro (by omega) (w.heap.size + 1 + 1) bs bl cap M w.heap.size (ltc hs) hM W0 (by omega) (by omega) (cell_of g2 rfl) ((hB0.cell (p := ⟨bs, 0, none⟩) (ltc hs)).trans hs)) (fun h k => kpO_t h k)
    (fun W l o o' hl ho h1 h2 => ⟨belowK_b (w := w) (Nat.le_refl _) W l o o' (by omega) ho h1 h2, World.putObj_heap_other (by omega)⟩) (Below.refl _ _) (fun _ => rfl)
    (fun pre W => (W.heap[w.heap.size]? = some (.cells #[.int .i64 (wsum (pre.map fun i => fa i.1)), .int .i64 (wsum (pre.map fun i => fb i.1))] 3) ∧ W.heap[w.heap.size + 1]? = some (.cells #[.slice (some ⟨w.heap.size, 0, none⟩) 2 2] 40)) ∧ Below w.heap.size w W)
    (fun _ _ _ => False)
    (OwnFrom.and (Own.from (fun s A B row hs hg hr => ⟨blk_kept hs.1 hg hr, blk_kept hs.2 hg hr⟩) _) (ownFrom_below (Nat.le_refl _) (by omega)))
    (fun _ _ _ _ _ hs _ _ => hs)
    ⟨⟨g0, g1⟩, hB0⟩
    (fun x => { tmps := #[.pointer (some ⟨bs, 0, none⟩), undef, .slice none 0 0, .pointer (some ⟨w.heap.size + 1, 0, none⟩), undef, .pointer (some ⟨bl, x.1 * 10, none⟩), undef, undef, .pointer (some ⟨bs, 0, none⟩), .bool false, .pointer (some ⟨bs, 0, none⟩), .pointer (some ⟨bs, 0, none⟩), .pointer (some ⟨bs, 0, none⟩),
      .slice (some ⟨bl, 0, none⟩) (M + 1) cap, .pointer (some ⟨bl, 0, none⟩), .pointer (some ⟨bl, 9, none⟩), .slice (some ⟨b0, 0, none⟩) 2 k0, .int .i64 2, .slice (some ⟨w.heap.size, 0, none⟩) 2 2, .pointer (some ⟨bs, 0, none⟩), .func (.func 77) #[] #[.pointer (some ⟨w.heap.size + 1 + 1, 0, none⟩)],
      .int .i64 (x.1 : Int), .pointer (some ⟨bl, x.1 * 10, none⟩), undef, undef, undef, undef, undef, undef, undef, undef, undef, undef, undef, undef, undef, undef, undef, undef, undef, undef, undef], defers := [] }) ?assign ?body ?done ?stop
  case assign =>
    intro l x W K hK
    gi_wp2
    exact hK
  case body =>
    rintro l pre x W ⟨⟨hrow, hbox⟩, hB⟩ _
    have hx : x.1 ≤ M := by omega
    have blt : ∀ {a : Addr} {v : Value}, w.cell? a = some v → W.cell? a = some v := fun {a v} h => (hB.cell (p := a) (ltc h)).trans h
    obtain ⟨bx, cx, hst, e1, e2⟩ := hl x.1 hx
    have k0 := ltc e1
    have hst := blt hst
    have e1 := blt e1
    have e2 := blt e2
    obtain ⟨sa, hsa⟩ : ∃ sa, wsum (pre.map fun i => fa i.1) = sa := ⟨_, rfl⟩
    obtain ⟨sb, hsb⟩ : ∃ sb, wsum (pre.map fun i => fb i.1) = sb := ⟨_, rfl⟩
    rw [hsa, hsb] at hrow
    have w1 : wsum ((pre ++ [x]).map fun i => fa i.1) = wrap64 (sa + fa x.1) := by rw [List.map_append, List.map_cons, List.map_nil, wsum_snoc, hsa]
    have w2 : wsum ((pre ++ [x]).map fun i => fb i.1) = wrap64 (sb + fb x.1) := by rw [List.map_append, List.map_cons, List.map_nil, wsum_snoc, hsb]
    gi_wp2
    gi_loopw [28] (fun i wr => ∃ k : Nat, k ≤ 2 ∧ i = .int .i64 k ∧ wr.heap[w.heap.size]? = some (.cells #[.int .i64 (if 1 ≤ k then wrap64 (sa + fa x.1) else sa), .int .i64 (if 2 ≤ k then wrap64 (sb + fb x.1) else sb)] 3) ∧
      wr.heap[w.heap.size + 1]? = some (.cells #[.slice (some ⟨w.heap.size, 0, none⟩) 2 2] 40) ∧ KeepsOthers W wr ∧ KpO w.heap.size (w.heap.size + 1 + 1) W wr)
      (fun i _ => 2 - (intOf i).toNat)
    case atStart => exact ⟨0, by omega, rfl, hrow, hbox, KeepsOthers.refl _, Below.refl _ _, rfl⟩
    case round =>
      obtain ⟨k, hk, rfl, q1, q2, q3, q4⟩ := hrel
      have e1r := (q4.1.cell (p := ⟨bx, 0, none⟩) k0).trans e1
      have e2r := (q4.1.cell (p := ⟨bx, 1, none⟩) k0).trans e2
      have c2 := cell_of q2 (i := 0) rfl
      have f1 : ∀ i, wr.frozen? ⟨w.heap.size, i, none⟩ = false := fun i => free_of q1
      match k, hk with
      | 0, _ =>
        have c1 := cell_of q1 (i := 0) rfl
        gi_wp2
        exact ⟨⟨1, by omega, rfl, set_blk q1, (Below.heap_setCell _ _ _ _ (by show w.heap.size + 1 ≠ w.heap.size; omega)).trans q2, q3.trans (KeepsOthers.setCell _ _ _), kpO_t q4 ⟨(Below.refl w.heap.size wr).setCell (p := ⟨w.heap.size, 0, none⟩) (Nat.le_refl _) _, Below.heap_setCell _ _ _ _ (by show w.heap.size + 1 + 1 ≠ w.heap.size; omega)⟩⟩, by simp [intOf]⟩
      | 1, _ =>
        have c1 := cell_of q1 (i := 1) rfl
        gi_wp2
        exact ⟨⟨2, by omega, rfl, set_blk q1, (Below.heap_setCell _ _ _ _ (by show w.heap.size + 1 ≠ w.heap.size; omega)).trans q2, q3.trans (KeepsOthers.setCell _ _ _), kpO_t q4 ⟨(Below.refl w.heap.size wr).setCell (p := ⟨w.heap.size, 1, none⟩) (Nat.le_refl _) _, Below.heap_setCell _ _ _ _ (by show w.heap.size + 1 + 1 ≠ w.heap.size; omega)⟩⟩, by simp [intOf]⟩
      | 2, _ =>
        gi_wp2
        exact ⟨q3, q4, ⟨by rw [w1, w2]; exact q1, q2⟩, hB.trans q4.1⟩
  case done =>
    rintro D ys W hD rfl ⟨⟨hrow, hbox⟩, hB⟩ hK
    have c2 := cell_of hbox (i := 0) rfl
    gi_wp2
    refine ⟨by simp, .inl ⟨_, _, rfl, run_takeDeferred hK, ?_⟩⟩
    refine ⟨_, results_tmp rfl _ _ _, w.heap.size, rfl, Nat.le_refl _, (World.putObj_heap_other (by omega)).trans hrow, hB.trans (belowK_b (w := w) (Nat.le_refl _) W D _ _ (by omega) hK rfl rfl)⟩
  case stop =>
    rintro D c pre W _ _ h _
    exact h.elim
end Go.Proofs.YtfkacmmcgncooaaGreatDoor
end

/- The evaluator: a contract by hand whose result is one new object. -/
section
set_option linter.unusedSectionVars false
namespace Go.Ev
open Go.RowKit (Below)
variable {P : Program} [Frozen P] {σ : Sg} {A : AW} {w w' : World}
theorem Rel.newAt (hR : Rel P σ A w) {o : AO} {x : Obj} {nb d : Nat} (hb : Below w.heap.size w w') (hge : w.heap.size ≤ nb) (hx : w'.heap[nb]? = some x) (hor : OR P σ d o x) :
    Rel P (ext σ A.next (nb, d)) (A.add o) w' ∧ Step σ A w (ext σ A.next (nb, d)) (A.add o) w' := by
  have hn := hR.lim A.next (Nat.le_refl _)
  have hsub := sub_ext (nb, d) hn
  have hlt : ∀ {k y}, w.heap[k]? = some y → k < w.heap.size := fun {k y} h => (Array.getElem?_eq_some_iff.1 h).1
  have hold : ∀ k, k < w.heap.size → w'.heap[k]? = w.heap[k]? := fun k hk => hb.block k hk
  have hnone : ∀ i d' o', σ i = some (nb, d') → A.heap.get i = some o' → live o' = true → False := fun i d' o' hi hg hl => by
    obtain ⟨y, hy, _⟩ := hR.obj i _ d' o' hi hg hl
    have := hlt hy; omega
  refine hR.both ⟨⟨?_, ?_, ?_, ?_, fun j hj => by have hj : A.next + 1 ≤ j := hj; rw [heap_add, if_neg (by omega)]; exact hR.top j (by omega)⟩, ⟨?_, Nat.le_succ _, hb.os, hb.tape, hb.output, hb.size, fun k hk _ => hold k hk, ?_, ?_, ?_⟩⟩
  · intro j b' d' oj hj hgj hlj
    rw [heap_add] at hgj
    by_cases e : j = A.next
    · subst e; rw [if_pos rfl] at hgj; cases hgj
      rw [ext_self] at hj; cases hj
      exact ⟨x, hx, hor.sub hsub⟩
    · rw [if_neg e] at hgj; rw [ext_other _ e] at hj
      obtain ⟨y, hy, hor'⟩ := hR.obj j b' d' oj hj hgj hlj
      exact ⟨y, by rw [hold _ (hlt hy)]; exact hy, hor'.sub hsub⟩
  · intro j k b' d1 d2 oj ok hj hk hgj hgk hlj hlk hjk
    rw [heap_add] at hgj hgk
    by_cases e : j = A.next <;> by_cases e2 : k = A.next
    · rw [e, e2]
    · subst e; rw [ext_self] at hj; cases hj; rw [ext_other _ e2] at hk; rw [if_neg e2] at hgk; exact (hnone k d2 ok hk hgk hlk).elim
    · subst e2; rw [ext_self] at hk; cases hk; rw [ext_other _ e] at hj; rw [if_neg e] at hgj; exact (hnone j d1 oj hj hgj hlj).elim
    · rw [ext_other _ e] at hj; rw [ext_other _ e2] at hk; rw [if_neg e] at hgj; rw [if_neg e2] at hgk
      exact hR.inj _ _ b' d1 d2 oj ok hj hk hgj hgk hlj hlk hjk
  · intro i hi
    have hi : A.next + 1 ≤ i := hi
    rw [ext_other _ (by omega)]
    exact hR.lim i (by omega)
  · intro g hg
    rw [ext_other _ (fun e => by have := hR.glob g hg; rw [e, hn] at this; cases this)]
    exact hR.glob g hg
  · intro i hi; exact ext_other _ (by omega)
  · rintro k hk ⟨j, d', oj, hj, hgj, hw⟩
    rw [heap_add] at hgj
    by_cases e : j = A.next
    · subst e; rw [ext_self] at hj; cases hj; omega
    · rw [if_neg e] at hgj; rw [ext_other _ e] at hj; exact ⟨j, d', oj, hj, hgj, hw⟩
  · intro i b' d' oi hle hi hgi hli hb'
    by_cases e : i = A.next
    · subst e; rw [ext_self] at hi; cases hi; omega
    · rw [ext_other _ e, hR.lim i hle] at hi; cases hi
  · intro i oi hi hgi hli
    rw [heap_add, if_neg (by omega)] at hgi
    exact ⟨oi, hgi, hli⟩
theorem serves_row {E : Env} (hE : EnvOK P E) {f : FuncId} {fn : Func} {c : Code} (hf : P.funcs[f]? = some fn) (hb : fn.body = some c) {args' cs cs' : List Value} {e : TypeId} {n : Nat} (hR : Rel P σ A w) (hc : VRL σ cs cs')
    (h : Calls P f ⟨args'⟩ w fun en w' => ∃ nb, en = .returned (.slice (some ⟨nb, 0, none⟩) n n) ∧ w.heap.size ≤ nb ∧ w'.heap[nb]? = some (.cells ⟨cs'⟩ e) ∧ Below w.heap.size w w') :
    Serves P σ A w ((callFunc f ⟨args'⟩).run P w) (.slice (some ⟨A.next, 0, none⟩) n n) (A.add (.row cs e .own)) :=
  .inr ⟨f, ⟨args'⟩, entered (hE.name f fn hf) hf hb ⟨args'⟩ w, Calls.mono h fun en w' he => by
    obtain ⟨nb, rfl, hge, hx, hbl⟩ := he
    have k := hR.newAt (o := .row cs e .own) (d := 0) hbl hge hx ⟨.inr rfl, rowR_own hc⟩
    exact ⟨_, .slice (ext_self _ _), k.1, k.2⟩⟩
end Go.Ev
end

/- What all tables have of each seat, for the evaluator without variables. -/
section
set_option maxRecDepth 100000
set_option linter.unusedSectionVars false
namespace Go.Proofs.YtfkacmmcgncooaaGreatDoor
open Go.Ev
open Go.RowKit (Below wrap64)
noncomputable section
def ptrI (v : Value) : Option Nat := match v with
  | .pointer (some ⟨b, 0, none⟩) => some b
  | _ => none
def slcI (v : Value) : Option (Nat × Nat × Nat) := match v with
  | .slice (some ⟨b, 0, none⟩) l c => some (b, l, c)
  | _ => none
def i64I (v : Value) : Option Int := match v with
  | .int .i64 z => some z
  | _ => none
def celI (H : T AO) (i k : Nat) : Option Value := Option.rec none (fun o => AO.rec (fun c _ _ => lget c k) (fun _ _ => none) none o) (H.get i)
def amtI (H : T AO) (il i : Nat) : Option (Int × Int) := ob (celI H il (Nat.add (Nat.mul i 10) 9)) fun v => ob (slcI v) fun s => bt (Nat.beq s.2.1 2) (ob (celI H s.1 0) fun x => ob (celI H s.1 1) fun y => ob (i64I x) fun p => ob (i64I y) fun q => some (p, q))
def amtsI (H : T AO) (il n : Nat) : Option (List (Int × Int)) := Nat.rec (some []) (fun n ih => ob (amtI H il n) fun p => ob ih fun l => some (p :: l)) n
def heldV (v : Value) (A : AW) : Option (Value × AW) := ob (ptrI v) fun is => ob (celI A.heap is 0) fun h => ob (slcI h) fun s => Nat.rec none (fun M _ => bt (Nat.ble M 1000) (ob (amtsI A.heap s.1 (Nat.succ M)) fun l =>
  fint (wsum (l.map fun p => p.1)) fun x => fint (wsum (l.map fun p => p.2)) fun y => some (.slice (some ⟨A.next, 0, none⟩) 2 2, A.add (.row [.int .i64 x, .int .i64 y] 3 .own)))) s.2.1
def heldA (c : Caller) (args : List Value) (A : AW) : Option (Value × AW) := match args with
  | [x] => Option.rec (c 19 args A) some (heldV x A)
  | _ => c 19 args A
def heldH (c : Caller) : Caller := fun f args A => Bool.rec (c f args A) (heldA c args A) (Nat.beq f 19)
end
theorem ptrI_some {v : Value} {b : Nat} (h : ptrI v = some b) : v = .pointer (some ⟨b, 0, none⟩) := by
  unfold ptrI at h
  split at h
  · cases h; rfl
  · cases h
theorem slcI_some {v : Value} {s : Nat × Nat × Nat} (h : slcI v = some s) : v = .slice (some ⟨s.1, 0, none⟩) s.2.1 s.2.2 := by
  unfold slcI at h
  split at h
  · cases h; rfl
  · cases h
theorem i64I_some {v : Value} {z : Int} (h : i64I v = some z) : v = .int .i64 z := by
  unfold i64I at h
  split at h
  · cases h; rfl
  · cases h
theorem celI_some {H : T AO} {i k : Nat} {v : Value} (h : celI H i k = some v) : ∃ c e m, H.get i = some (.row c e m) ∧ c[k]? = some v := by
  unfold celI at h
  cases hg : H.get i with
  | none => rw [hg] at h; cases h
  | some o =>
    rw [hg] at h
    cases o with
    | row c e m => exact ⟨c, e, m, rfl, by rw [← lget_eq]; exact h⟩
    | map es k => cases h
    | dead => cases h
theorem amtsI_all {H : T AO} {il : Nat} : ∀ {n : Nat} {l : List (Int × Int)}, amtsI H il n = some l → (∀ i, i < n → ∃ p, amtI H il i = some p) ∧ l = (List.range n).map fun j => (amtI H il (n - 1 - j)).getD (0, 0) := by
  intro n
  induction n with
  | zero => intro l h; cases h; exact ⟨fun i hi => absurd hi (Nat.not_lt_zero _), rfl⟩
  | succ n ih =>
    intro l h
    have h : ob (amtI H il n) (fun p => ob (amtsI H il n) fun l => some (p :: l)) = some l := h
    simp only [ob_some] at h
    obtain ⟨p, hp, l', hl', e⟩ := h
    cases e
    obtain ⟨k1, k2⟩ := ih hl'
    refine ⟨fun i hi => ?_, ?_⟩
    · by_cases e : i = n
      · subst e; exact ⟨p, hp⟩
      · exact k1 i (by omega)
    · rw [List.range_succ_eq_map, List.map_cons, List.map_map]
      simp only [Nat.add_sub_cancel, Nat.sub_zero, hp, Option.getD_some]
      rw [k2]
      congr 1
      apply List.map_congr_left
      intro j _
      simp only [Function.comp]
      congr 2
      omega
variable [Frozen Tryz.prog]
theorem heldH_ok : HookOK Tryz.prog heldH := fun c hc f args A v A' h σ w args' hR ha => by
  unfold heldH at h
  cases hb : Nat.beq f 19 with
  | false => rw [hb] at h; exact hc f args A v A' h σ w args' hR ha
  | true =>
    rw [hb] at h
    obtain rfl := beqIff.1 hb
    have hw2 : heldA c args A = some (v, A') := h
    clear h
    unfold heldA at hw2
    split at hw2
    · rename_i x
      cases hv : heldV x A with
      | none => rw [hv] at hw2; exact hc _ _ _ _ _ hw2 σ w args' hR ha
      | some p =>
        rw [hv] at hw2
        have hw2 : some p = some (v, A') := hw2
        cases hw2
        unfold heldV at hv
        simp only [ob_some] at hv
        obtain ⟨is, h1, hd, h2, ⟨il, n, cp⟩, h3, h4⟩ := hv
        obtain rfl := ptrI_some h1
        obtain rfl := slcI_some h3
        cases n with
        | zero => cases h4
        | succ M =>
          have h4 : bt (Nat.ble M 1000) (ob (amtsI A.heap il (Nat.succ M)) fun l => fint (wsum (l.map fun p => p.1)) fun x => fint (wsum (l.map fun p => p.2)) fun y => some (.slice (some ⟨A.next, 0, none⟩) 2 2, A.add (.row [.int .i64 x, .int .i64 y] 3 .own))) = some (v, A') := h4
          simp only [bt_some, ob_some, fint_eq, Option.some.injEq, Prod.mk.injEq] at h4
          obtain ⟨hM, l, hl, rfl, rfl⟩ := h4
          obtain ⟨k1, k2⟩ := amtsI_all hl
          cases ha with
          | cons a1 t1 =>
          cases t1
          obtain ⟨bs, d1, s1, rfl⟩ := a1.ptr_inv
          have hcell : ∀ {i k : Nat} {u : Value} {b d : Nat}, σ i = some (b, d) → celI A.heap i k = some u → ∃ u', w.cell? ⟨b, k, none⟩ = some u' ∧ VR σ u u' := fun {i k u b d} hs hu => by
            obtain ⟨c0, e0, m0, hg, hk⟩ := celI_some hu
            obtain ⟨cs, es, fz, hw0, hr, _⟩ := hR.rowA hs hg
            obtain ⟨u', hu', hv'⟩ := hr.get hk
            exact ⟨u', by simp [World.cell?, hw0, hu'], hv'⟩
          obtain ⟨u0, hu0, vu0⟩ := hcell s1 h2
          obtain ⟨bl, dl, sl, rfl⟩ := vu0.slice_inv
          have hA : (l.map fun p => p.1) = (dn M (M + 1)).map fun i => ((amtI A.heap il i.1).getD (0, 0)).1 := by
            rw [k2]; simp only [dn, List.map_map]
            apply List.map_congr_left
            intro j _
            simp only [Function.comp]
            congr 3
          have hB : (l.map fun p => p.2) = (dn M (M + 1)).map fun i => ((amtI A.heap il i.1).getD (0, 0)).2 := by
            rw [k2]; simp only [dn, List.map_map]
            apply List.map_congr_left
            intro j _
            simp only [Function.comp]
            congr 3
          refine serves_row envOK (fn := Tryz.f19) (by kernel_rfl) rfl hR (vrl_refl_flats rfl) ?_
          rw [hA, hB]
          refine callsIn_wide.1 (held_in Fence.wide 3 trivial trivial trivial rfl (by decide) bs bl (cp + dl) M (fun i => ((amtI A.heap il i).getD (0, 0)).1) (fun i => ((amtI A.heap il i).getD (0, 0)).2) w (bleIff.1 hM) hu0 fun i hi => ?_)
          obtain ⟨⟨p, q⟩, hp⟩ := k1 i (by omega)
          rw [hp]
          unfold amtI at hp
          simp only [ob_some, bt_some] at hp
          obtain ⟨v1, q1, ⟨ib, n2, c2⟩, q2, q3, x, q4, y, q5, p', q6, q', q7, e⟩ := hp
          cases e
          obtain rfl := slcI_some q2
          obtain rfl : n2 = 2 := beqIff.1 q3
          obtain rfl := i64I_some q6
          obtain rfl := i64I_some q7
          obtain ⟨u1, hu1, vu1⟩ := hcell sl q1
          obtain ⟨b, d, sb, rfl⟩ := vu1.slice_inv
          obtain ⟨u2, hu2, vu2⟩ := hcell sb q4
          obtain ⟨u3, hu3, vu3⟩ := hcell sb q5
          obtain rfl := vu2.of_flat rfl
          obtain rfl := vu3.of_flat rfl
          exact ⟨b, c2 + d, hu1, hu2, hu3⟩
    · exact hc _ _ _ _ _ hw2 σ w args' hR ha
end Go.Proofs.YtfkacmmcgncooaaGreatDoor
end

/- Tables within tables: what all have of each seat (what is to be shown). -/
section
set_option maxRecDepth 100000
namespace Go.Proofs.YtfkacmmcgncooaaGreatDoor
open Go.Ev
set_option linter.unusedSectionVars false
variable [Go.Ev.Frozen Tryz.prog]
noncomputable section
def sumX (d : Nat) (a : StA) : Int := nth4 d a.x (a.a.x + a.x) (a.a.x + a.b.x + a.x) (a.a.x + a.b.x + a.c.x + a.x)
def sumY (d : Nat) (a : StA) : Int := nth4 d a.y (a.a.y + a.y) (a.a.y + a.b.y + a.y) (a.a.y + a.b.y + a.c.y + a.y)
def OuA.sm (o : OuA) : Prop := smQ o.x ∧ smQ o.y
def allS (d : Nat) (a : StA) : Prop := (smQ a.x ∧ smQ a.y) ∧ nth4 d True a.a.sm (a.a.sm ∧ a.b.sm) (a.a.sm ∧ a.b.sm ∧ a.c.sm)
end
end Go.Proofs.YtfkacmmcgncooaaGreatDoor
end

/- Tables within tables: what all have of each seat is as is told. -/
section
set_option maxRecDepth 100000
namespace Go.Proofs.YtfkacmmcgncooaaGreatDoor
open Go.Ev
set_option linter.unusedSectionVars false
variable [Go.Ev.Frozen Tryz.prog]
end Go.Proofs.YtfkacmmcgncooaaGreatDoor
end

/- Tables within tables: what one table gives (what is to be shown). -/
section
set_option maxRecDepth 100000
namespace Go.Proofs.YtfkacmmcgncooaaGreatDoor
open Go.Ev
-- keep Go.Proofs.Tryz.prog turnG isG isGx smQ payR rightQ cells2
structure GvA where
  g : RuA
  p : PoA
  x : Int
  y : Int
set_option linter.unusedSectionVars false
variable [Go.Ev.Frozen Tryz.prog]
noncomputable section
structure PyA where
  a : GvA
  b : GvA
  c : GvA
  e : GvA
def pvL (b : Nat) (v : GvA) : LvV := loV b (v.p.ou v.x v.y)
def plL (d : Nat) (a : PyA) : List LvV := nth4 d [pvL (12 + 2) a.a] [pvL (12 + 2) a.a, pvL (12 + 18) a.b] [pvL (12 + 2) a.a, pvL (12 + 18) a.b, pvL (12 + 34) a.c] [pvL (12 + 2) a.a, pvL (12 + 18) a.b, pvL (12 + 34) a.c, pvL (12 + 50) a.e]
end
end Go.Proofs.YtfkacmmcgncooaaGreatDoor
end

/- Tables within tables: what one table gives is as is told. -/
section
set_option maxRecDepth 100000
namespace Go.Proofs.YtfkacmmcgncooaaGreatDoor
open Go.Ev
set_option linter.unusedSectionVars false
variable [Go.Ev.Frozen Tryz.prog]
end Go.Proofs.YtfkacmmcgncooaaGreatDoor
end

/- Tables within tables: what is paid as they stand (a range over a function, with what was given so far). -/
section
set_option maxRecDepth 100000
namespace Go.Proofs.YtfkacmmcgncooaaGreatDoor
open Go.RowKit Go.Shelf
attribute [local go_sem] Oper.semAt_some
def Two (W : World) (nb : Nat) (x y : Int) : Prop := ∃ (cs : Array Value) (fz : Nat × Nat) (zs : List Value), W.heap[nb]? = some (.cells cs 3 fz) ∧ cs.toList = .int .i64 x :: .int .i64 y :: zs ∧ ∀ o, o < cs.size → ¬ (fz.1 ≤ o ∧ o < fz.2)
theorem Two.size {cs : Array Value} {a b : Value} {zs : List Value} (h : cs.toList = a :: b :: zs) : cs.size = zs.length + 2 := by rw [← Array.length_toList, h]; rfl
theorem Two.c0 {W : World} {nb : Nat} {x y : Int} (h : Two W nb x y) : W.cell? ⟨nb, 0, none⟩ = some (.int .i64 x) := by
  obtain ⟨cs, fz, zs, h1, h2, -⟩ := h
  refine cell_of h1 ?_
  rw [← Array.getElem?_toList, h2]; rfl
theorem Two.c1 {W : World} {nb : Nat} {x y : Int} (h : Two W nb x y) : W.cell? ⟨nb, 1, none⟩ = some (.int .i64 y) := by
  obtain ⟨cs, fz, zs, h1, h2, -⟩ := h
  refine cell_of h1 ?_
  rw [← Array.getElem?_toList, h2]; rfl
theorem Two.f0 {W : World} {nb : Nat} {x y : Int} (h : Two W nb x y) : W.frozen? ⟨nb, 0, none⟩ = false := by
  obtain ⟨cs, fz, zs, h1, h2, h3⟩ := h
  have hs := Two.size h2
  have := h3 0 (by omega)
  simp only [World.frozen?, h1]
  simp only [Bool.and_eq_false_imp, decide_eq_true_eq, decide_eq_false_iff_not]
  exact fun h h' => this ⟨h, h'⟩
theorem Two.f1 {W : World} {nb : Nat} {x y : Int} (h : Two W nb x y) : W.frozen? ⟨nb, 1, none⟩ = false := by
  obtain ⟨cs, fz, zs, h1, h2, h3⟩ := h
  have hs := Two.size h2
  have := h3 1 (by omega)
  simp only [World.frozen?, h1]
  simp only [Bool.and_eq_false_imp, decide_eq_true_eq, decide_eq_false_iff_not]
  exact fun h h' => this ⟨h, h'⟩
theorem Two.lt {W : World} {nb : Nat} {x y : Int} (h : Two W nb x y) : nb < W.heap.size := by
  obtain ⟨cs, fz, zs, h1, -⟩ := h
  exact (Array.getElem?_eq_some_iff.1 h1).1
theorem Two.of {W W' : World} {nb : Nat} {x y : Int} (h : Two W nb x y) (e : W'.heap[nb]? = W.heap[nb]?) : Two W' nb x y := by
  obtain ⟨cs, fz, zs, h1, h2⟩ := h
  exact ⟨cs, fz, zs, e.trans h1, h2⟩
theorem Two.below {W W' : World} {nb n : Nat} {x y : Int} (h : Two W nb x y) (hb : Below n W W') (hn : nb < n) : Two W' nb x y := h.of (hb.block nb hn)
inductive ChL {M : Nat} (fa fb : Nat → Int) (gv : Nat → Int → Int → Int → Int → Prop) : List (Fin (M + 1)) → Int → Int → Prop
  | nil : ChL fa fb gv [] 0 0
  | snoc {pre : List (Fin (M + 1))} {t : Fin (M + 1)} {x y u v : Int} : ChL fa fb gv pre x y → gv t.1 (fa t.1 + x) (fb t.1 + y) u v → ChL fa fb gv (pre ++ [t]) u v
theorem ChL.small {M : Nat} {fa fb : Nat → Int} {gv : Nat → Int → Int → Int → Int → Prop} (hf : ∀ i, i ≤ M → (0 ≤ fa i ∧ fa i ≤ 1000000) ∧ 0 ≤ fb i ∧ fb i ≤ 1000000) (hg : ∀ i x y u v, gv i x y u v → 0 ≤ x → 0 ≤ y → (0 ≤ u ∧ 0 ≤ v) ∧ u + v = x + y) :
    ∀ {pre : List (Fin (M + 1))} {x y : Int}, ChL fa fb gv pre x y → (0 ≤ x ∧ 0 ≤ y) ∧ x + y ≤ 2000000 * (pre.length : Int) := by
  intro pre x y h
  induction h with
  | nil => exact ⟨⟨Int.le_refl _, Int.le_refl _⟩, by simp⟩
  | @snoc pre t x y u v h1 h2 ih =>
    obtain ⟨⟨a1, a2⟩, a3⟩ := ih
    obtain ⟨⟨b1, b2⟩, b3, b4⟩ := hf t.1 (by omega)
    obtain ⟨⟨c1, c2⟩, c3⟩ := hg _ _ _ _ _ h2 (by omega) (by omega)
    refine ⟨⟨c1, c2⟩, ?_⟩
    rw [List.length_append, List.length_singleton]
    omega
end Go.Proofs.YtfkacmmcgncooaaGreatDoor
end
