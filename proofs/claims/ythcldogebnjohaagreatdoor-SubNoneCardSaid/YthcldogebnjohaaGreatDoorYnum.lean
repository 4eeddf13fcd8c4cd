/- The document's numbers as bytes: what is told of baizeref01.Num and its like (what is to be shown). -/
import Derived.Test.YthcldogebnjohaaGreatDoorEv15
import Derived.Test.YthcldogebnjohaaGreatDoorEnv
section
set_option maxRecDepth 100000
namespace Go.Proofs.YthcldogebnjohaaGreatDoor
open Go.Ev
-- keep num foldI
def num (n : Nat) : List Int := if n < 128 then [(n : Int)] else ((128 + n % 128 : Nat) : Int) :: num (n / 128)
def foldI (n : Int) : Int := if n < 0 then 2 * (-(n + 1)) + 1 else 2 * n
set_option linter.unusedSectionVars false
variable [Go.Ev.Frozen Tryz.prog]
noncomputable section
def cw0 : CW := fun _ _ _ _ => False
end
end Go.Proofs.YthcldogebnjohaaGreatDoor
end

/- The document's numbers as bytes: what is told of baizeref01.Num and its like is so. -/
section
set_option maxRecDepth 100000
namespace Go.Proofs.YthcldogebnjohaaGreatDoor
open Go.Ev
set_option linter.unusedSectionVars false
variable [Go.Ev.Frozen Tryz.prog]
theorem cw0_ok : CwOK Tryz.prog cw0 := fun _ _ _ _ h => h.elim
theorem wrap_i64 (x : Int) : IntKind.wrap .i64 x = (x + 9223372036854775808) % 18446744073709551616 - 9223372036854775808 := by simp [IntKind.wrap, IntKind.bits, IntKind.signed]; omega
end Go.Proofs.YthcldogebnjohaaGreatDoor
end

/- Positions: what is told of Cut and Clone (what is to be shown). -/
section
set_option maxRecDepth 100000
namespace Go.Proofs.YthcldogebnjohaaGreatDoor
open Go.Ev
-- keep Go.Ev.Sli PH
structure SA where
  n : Bool
  o : Nat
  l : Nat
  k : Nat
  c : List Value
structure PA where
  s1 : SA
  s2 : SA
  s3 : SA
  r0 : Int
  r1 : Int
  r2 : Int
  r3 : Int
  r4 : Int
structure PX where
  vars : List Int
  gone : List Bool
  tips : List Int
structure PH (a : PA) (x : PX) : Prop where
  p1 : Sli (Value.int .i32) 1 a.s1.n a.s1.o a.s1.l a.s1.k a.s1.c x.vars
  p2 : Sli Value.bool 1 a.s2.n a.s2.o a.s2.l a.s2.k a.s2.c x.gone
  p3 : Sli (Value.int .u8) 8 a.s3.n a.s3.o a.s3.l a.s3.k a.s3.c x.tips
structure RW where
  k : Nat
  c : List Value
set_option linter.unusedSectionVars false
variable [Go.Ev.Frozen Tryz.prog]
noncomputable section
abbrev SA.v (a : SA) (i : Nat) : Value := mnS i a.n a.o a.l a.k
def saOf (A : AW) (v : Value) : SA := ⟨(slOf v).nb, (slOf v).o, (slOf v).l, (slOf v).c, rowV A v⟩
abbrev rolls (a : PA) : List Value := [tgI .i64 a.r0, tgI .i64 a.r1, tgI .i64 a.r2, tgI .i64 a.r3, tgI .u64 a.r4]
abbrev PA.v (a : PA) (i : Nat) : Value := .agg ⟨a.s1.v i :: a.s2.v (i + 1) :: a.s3.v (i + 2) :: rolls a⟩
abbrev PA.R (a : PA) (i : Nat) (e : TypeId) : List (Nat × PO) := [(i, .f a.s1.c 21 .gro), (i + 1, .f a.s2.c 4 .gro), (i + 2, .f a.s3.c e .gro)]
def paOf (A : AW) (l : List Value) : PA := ⟨saOf A (lv l 0), saOf A (lv l 1), saOf A (lv l 2), iv (lv l 3), iv (lv l 4), iv (lv l 5), iv (lv l 6), iv (lv l 7)⟩
def paN (i : Nat) (l : List Value) : List (Nat × Nat) := renS i (lv l 0) ++ (renS (i + 1) (lv l 1) ++ renS (i + 2) (lv l 2))
def S_cli32 : SpecD where
  f := 41
  α := SA
  args a := [a.v 12]
  R a := [(12, .f a.c 21 .gro)]
  n := 12 + 1
  pre a := (∃ xs, Sli (Value.int .i32) 1 a.n a.o a.l a.k a.c xs) ∧ a.l ≤ 1000
  outs := [⟨RW, fun a b => ∀ xs, Sli (Value.int .i32) 1 a.n a.o a.l a.k a.c xs → Sli (Value.int .i32) 1 a.n 0 a.l b.k b.c xs, fun a b => mnS (12 + 1) a.n 0 a.l b.k, fun _ b => [(12 + 1, .f b.c 21 (.grown b.k))], fun _ _ => 12 + 2, fun v _ => renS (12 + 1) v⟩]
  pick _ _ := 0
  find l A := some (saOf A (lv l 0), renS 12 (lv l 0))
def G_cli32 (a : SA) : Prop := fnW Tryz.prog E0 cw0 [] S_cli32.f (S_cli32.args a) (mem (S_cli32.R a) S_cli32.n) (endD Tryz.prog S_cli32 a)
def S_clbool : SpecD where
  f := 42
  α := SA
  args a := [a.v 12]
  R a := [(12, .f a.c 4 .gro)]
  n := 12 + 1
  pre a := (∃ xs, Sli (Value.bool) 1 a.n a.o a.l a.k a.c xs) ∧ a.l ≤ 1000
  outs := [⟨RW, fun a b => ∀ xs, Sli (Value.bool) 1 a.n a.o a.l a.k a.c xs → Sli (Value.bool) 1 a.n 0 a.l b.k b.c xs, fun a b => mnS (12 + 1) a.n 0 a.l b.k, fun _ b => [(12 + 1, .f b.c 4 (.grown b.k))], fun _ _ => 12 + 2, fun v _ => renS (12 + 1) v⟩]
  pick _ _ := 0
  find l A := some (saOf A (lv l 0), renS 12 (lv l 0))
def G_clbool (a : SA) : Prop := fnW Tryz.prog E0 cw0 [] S_clbool.f (S_clbool.args a) (mem (S_clbool.R a) S_clbool.n) (endD Tryz.prog S_clbool a)
def S_cldig : SpecD where
  f := 43
  α := SA
  args a := [a.v 12]
  R a := [(12, .f a.c 41 .gro)]
  n := 12 + 1
  pre a := (∃ xs, Sli (Value.int .u8) 8 a.n a.o a.l a.k a.c xs) ∧ a.l ≤ 1000
  outs := [⟨RW, fun a b => ∀ xs, Sli (Value.int .u8) 8 a.n a.o a.l a.k a.c xs → Sli (Value.int .u8) 8 a.n 0 a.l b.k b.c xs, fun a b => mnS (12 + 1) a.n 0 a.l b.k, fun _ b => [(12 + 1, .f b.c 41 (.grown b.k))], fun _ _ => 12 + 2, fun v _ => renS (12 + 1) v⟩]
  pick _ _ := 0
  find l A := some (saOf A (lv l 0), renS 12 (lv l 0))
def G_cldig (a : SA) : Prop := fnW Tryz.prog E0 cw0 [] S_cldig.f (S_cldig.args a) (mem (S_cldig.R a) S_cldig.n) (endD Tryz.prog S_cldig a)
def cwCl : CW := cwD Tryz.prog S_cli32 (cwD Tryz.prog S_clbool (cwD Tryz.prog S_cldig cw0))
structure PB where
  b1 : RW
  b2 : RW
  b3 : RW
def PB.pa (b : PB) (a : PA) : PA := ⟨⟨a.s1.n, 0, a.s1.l, b.b1.k, b.b1.c⟩, ⟨a.s2.n, 0, a.s2.l, b.b2.k, b.b2.c⟩, ⟨a.s3.n, 0, a.s3.l, b.b3.k, b.b3.c⟩, a.r0, a.r1, a.r2, a.r3, a.r4⟩
def S_clone : SpecD where
  f := 7
  α := PA
  args a := [a.v 12]
  R a := a.R 12 41
  n := 12 + 3
  pre a := (∃ x, PH a x) ∧ (a.s1.l ≤ 1000 ∧ a.s2.l ≤ 1000 ∧ a.s3.l ≤ 1000)
  outs := [⟨PB, fun a b => ∀ x, PH a x → PH (b.pa a) x, fun a b => .agg ⟨mnS (12 + 3) a.s1.n 0 a.s1.l b.b1.k :: mnS (12 + 4) a.s2.n 0 a.s2.l b.b2.k :: mnS (12 + 5) a.s3.n 0 a.s3.l b.b3.k :: rolls a⟩,
    fun _ b => [(12 + 3, .f b.b1.c 21 (.grown b.b1.k)), (12 + 4, .f b.b2.c 4 (.grown b.b2.k)), (12 + 5, .f b.b3.c 41 (.grown b.b3.k))], fun _ _ => 12 + 6, fun v _ => paN (12 + 3) (agv v)⟩]
  pick _ _ := 0
  find l A := some (paOf A (agv (lv l 0)), paN 12 (agv (lv l 0)))
def G_clone (a : PA) : Prop := fnW Tryz.prog E0 cwCl [] S_clone.f (S_clone.args a) (mem (S_clone.R a) S_clone.n) (endD Tryz.prog S_clone a)
end
end Go.Proofs.YthcldogebnjohaaGreatDoor
end

/- Positions: what is told of Cut and Clone is so. -/
section
set_option maxRecDepth 100000
namespace Go.Proofs.YthcldogebnjohaaGreatDoor
open Go.Ev
set_option linter.unusedSectionVars false
variable [Go.Ev.Frozen Tryz.prog]
noncomputable section
def W_G_clone_0 : PA → Option AO := fun (a : PA) => Option.some (AO.row (Array.toList (Array.mk [Value.iface (1000000009 : Nat) (Value.agg (Array.mk [Value.bool a.1.1, Value.slice (Option.some (Addr.mk (12 : Nat)
a.1.2 Option.none)) a.1.3 a.1.4])), Value.iface (1000000009 : Nat) (Value.agg (Array.mk [Value.bool a.2.1, Value.slice (Option.some (Addr.mk (13 : Nat) a.2.2 Option.none)) a.2.3
a.2.4])), Value.iface (1000000009 : Nat) (Value.agg (Array.mk [Value.bool a.3.1, Value.slice (Option.some (Addr.mk (14 : Nat) a.3.2 Option.none)) a.3.3 a.3.4])), Value.iface
(1000000007 : Nat) (Value.int IntKind.i64 a.4), Value.iface (1000000007 : Nat) (Value.int IntKind.i64 a.5), Value.iface (1000000007 : Nat) (Value.int IntKind.i64 a.6), Value.iface
(1000000007 : Nat) (Value.int IntKind.i64 a.7), Value.iface (1000000007 : Nat) (Value.int IntKind.u64 a.8)])) (32 : Nat) Md.own)
end
theorem vc_cli32 (a : SA) : G_cli32 a = ((a.1 = Bool.true → ∃ (x0 : RW), (∀ (x1 : List Int), Sli (Value.int IntKind.i32) (1 : Nat) a.1 a.2 a.3 a.4 a.5 x1 → Sli (Value.int IntKind.i32) (1 : Nat) a.1 (0 : Nat) a.3 x0.1 x0.2
x1) ∧ (a.1 = Bool.true ∧ a.3 = (0 : Nat) ∧ x0.1 = (0 : Nat)) ∧ (FlatL x0.2 ∧ True) ∧ True) ∧ (a.1 = Bool.false → (a.1 = Bool.true → ((0 : Nat) ≤ (0 : Nat) → Bool.true = Bool.true ∧
Bool.true = Bool.true ∧ (0 : Nat) ≤ (0 : Nat) ∧ ∀ (x2 : Nat) (x3 : List Value), x2 = (0 : Nat) → x3 = lput [] (0 : Nat) [] → ∃ (x4 : RW), (∀ (x5 : List Int), Sli (Value.int
IntKind.i32) (1 : Nat) a.1 a.2 a.3 a.4 a.5 x5 → Sli (Value.int IntKind.i32) (1 : Nat) a.1 (0 : Nat) a.3 x4.1 x4.2 x5) ∧ (a.1 = Bool.false ∧ (0 : Nat) = (0 : Nat) ∧ a.3 = x2 ∧ x4.1
= (0 : Nat)) ∧ ((x4.1 = (0 : Nat) ∧ x3 = []) ∧ FlatL x4.2 ∧ x4.2 = x3) ∧ True) ∧ (¬(0 : Nat) ≤ (0 : Nat) → Few (0 : Nat) (4 : Nat) ∧ (0 : Nat) ≤ (0 : Nat) ∧ ∀ (x6 : Nat) (x7 : List
Value), x6 = (0 : Nat) → x7 = lwin [] (0 : Nat) (0 : Nat) ++ [] → ∃ (x8 : RW), (∀ (x9 : List Int), Sli (Value.int IntKind.i32) (1 : Nat) a.1 a.2 a.3 a.4 a.5 x9 → Sli (Value.int
IntKind.i32) (1 : Nat) a.1 (0 : Nat) a.3 x8.1 x8.2 x9) ∧ (a.1 = Bool.false ∧ (0 : Nat) = (0 : Nat) ∧ a.3 = x6 ∧ x8.1 = x6) ∧ (x8.1 = x6 ∧ FlatL x8.2 ∧ x8.2 = x7) ∧ True)) ∧ (a.1 =
Bool.false → a.2 + a.3 * (1 : Nat) ≤ List.length a.5 ∧ ∀ (x10 : List Value), x10 = lwin a.5 a.2 (a.3 * (1 : Nat)) → ((0 : Nat) + a.3 ≤ (0 : Nat) → Bool.true = Bool.true ∧ lall oneK
x10 = Bool.true ∧ (0 : Nat) + List.length x10 ≤ (0 : Nat) ∧ ∀ (x11 : Nat) (x12 : List Value), x11 = (0 : Nat) + a.3 → x12 = lput [] (0 : Nat) x10 → ∃ (x13 : RW), (∀ (x14 : List
Int), Sli (Value.int IntKind.i32) (1 : Nat) a.1 a.2 a.3 a.4 a.5 x14 → Sli (Value.int IntKind.i32) (1 : Nat) a.1 (0 : Nat) a.3 x13.1 x13.2 x14) ∧ (a.1 = Bool.false ∧ (0 : Nat) = (0
: Nat) ∧ a.3 = x11 ∧ x13.1 = (0 : Nat)) ∧ ((x13.1 = (0 : Nat) ∧ x12 = []) ∧ FlatL x13.2 ∧ x13.2 = x12) ∧ True) ∧ (¬(0 : Nat) + a.3 ≤ (0 : Nat) → Few ((0 : Nat) + a.3) (4 : Nat) ∧
(0 : Nat) ≤ (0 : Nat) ∧ ∀ (x15 : Nat) (x16 : List Value), x15 = (0 : Nat) + a.3 → x16 = lwin [] (0 : Nat) (0 : Nat) ++ x10 → ∃ (x17 : RW), (∀ (x18 : List Int), Sli (Value.int
IntKind.i32) (1 : Nat) a.1 a.2 a.3 a.4 a.5 x18 → Sli (Value.int IntKind.i32) (1 : Nat) a.1 (0 : Nat) a.3 x17.1 x17.2 x18) ∧ (a.1 = Bool.false ∧ (0 : Nat) = (0 : Nat) ∧ a.3 = x15 ∧
x17.1 = x15) ∧ (x17.1 = x15 ∧ FlatL x17.2 ∧ x17.2 = x16) ∧ True)))) := by kernel_rfl
theorem vc_clbool (a : SA) : G_clbool a = ((a.1 = Bool.true → ∃ (x0 : RW), (∀ (x1 : List Bool), Sli Value.bool (1 : Nat) a.1 a.2 a.3 a.4 a.5 x1 → Sli Value.bool (1 : Nat) a.1 (0 : Nat) a.3 x0.1 x0.2 x1) ∧ (a.1 = Bool.true ∧
a.3 = (0 : Nat) ∧ x0.1 = (0 : Nat)) ∧ (FlatL x0.2 ∧ True) ∧ True) ∧ (a.1 = Bool.false → (a.1 = Bool.true → ((0 : Nat) ≤ (0 : Nat) → Bool.true = Bool.true ∧ Bool.true = Bool.true ∧
(0 : Nat) ≤ (0 : Nat) ∧ ∀ (x2 : Nat) (x3 : List Value), x2 = (0 : Nat) → x3 = lput [] (0 : Nat) [] → ∃ (x4 : RW), (∀ (x5 : List Bool), Sli Value.bool (1 : Nat) a.1 a.2 a.3 a.4 a.5
x5 → Sli Value.bool (1 : Nat) a.1 (0 : Nat) a.3 x4.1 x4.2 x5) ∧ (a.1 = Bool.false ∧ (0 : Nat) = (0 : Nat) ∧ a.3 = x2 ∧ x4.1 = (0 : Nat)) ∧ ((x4.1 = (0 : Nat) ∧ x3 = []) ∧ FlatL
x4.2 ∧ x4.2 = x3) ∧ True) ∧ (¬(0 : Nat) ≤ (0 : Nat) → Few (0 : Nat) (1 : Nat) ∧ (0 : Nat) ≤ (0 : Nat) ∧ ∀ (x6 : Nat) (x7 : List Value), x6 = (0 : Nat) → x7 = lwin [] (0 : Nat) (0 :
Nat) ++ [] → ∃ (x8 : RW), (∀ (x9 : List Bool), Sli Value.bool (1 : Nat) a.1 a.2 a.3 a.4 a.5 x9 → Sli Value.bool (1 : Nat) a.1 (0 : Nat) a.3 x8.1 x8.2 x9) ∧ (a.1 = Bool.false ∧ (0 :
Nat) = (0 : Nat) ∧ a.3 = x6 ∧ x8.1 = x6) ∧ (x8.1 = x6 ∧ FlatL x8.2 ∧ x8.2 = x7) ∧ True)) ∧ (a.1 = Bool.false → a.2 + a.3 * (1 : Nat) ≤ List.length a.5 ∧ ∀ (x10 : List Value), x10 =
lwin a.5 a.2 (a.3 * (1 : Nat)) → ((0 : Nat) + a.3 ≤ (0 : Nat) → Bool.true = Bool.true ∧ lall oneK x10 = Bool.true ∧ (0 : Nat) + List.length x10 ≤ (0 : Nat) ∧ ∀ (x11 : Nat) (x12 :
List Value), x11 = (0 : Nat) + a.3 → x12 = lput [] (0 : Nat) x10 → ∃ (x13 : RW), (∀ (x14 : List Bool), Sli Value.bool (1 : Nat) a.1 a.2 a.3 a.4 a.5 x14 → Sli Value.bool (1 : Nat)
a.1 (0 : Nat) a.3 x13.1 x13.2 x14) ∧ (a.1 = Bool.false ∧ (0 : Nat) = (0 : Nat) ∧ a.3 = x11 ∧ x13.1 = (0 : Nat)) ∧ ((x13.1 = (0 : Nat) ∧ x12 = []) ∧ FlatL x13.2 ∧ x13.2 = x12) ∧
True) ∧ (¬(0 : Nat) + a.3 ≤ (0 : Nat) → Few ((0 : Nat) + a.3) (1 : Nat) ∧ (0 : Nat) ≤ (0 : Nat) ∧ ∀ (x15 : Nat) (x16 : List Value), x15 = (0 : Nat) + a.3 → x16 = lwin [] (0 : Nat)
(0 : Nat) ++ x10 → ∃ (x17 : RW), (∀ (x18 : List Bool), Sli Value.bool (1 : Nat) a.1 a.2 a.3 a.4 a.5 x18 → Sli Value.bool (1 : Nat) a.1 (0 : Nat) a.3 x17.1 x17.2 x18) ∧ (a.1 =
Bool.false ∧ (0 : Nat) = (0 : Nat) ∧ a.3 = x15 ∧ x17.1 = x15) ∧ (x17.1 = x15 ∧ FlatL x17.2 ∧ x17.2 = x16) ∧ True)))) := by kernel_rfl
theorem vc_cldig (a : SA) : G_cldig a = ((a.1 = Bool.true → ∃ (x0 : RW), (∀ (x1 : List Int), Sli (Value.int IntKind.u8) (8 : Nat) a.1 a.2 a.3 a.4 a.5 x1 → Sli (Value.int IntKind.u8) (8 : Nat) a.1 (0 : Nat) a.3 x0.1 x0.2
x1) ∧ (a.1 = Bool.true ∧ a.3 = (0 : Nat) ∧ x0.1 = (0 : Nat)) ∧ (FlatL x0.2 ∧ True) ∧ True) ∧ (a.1 = Bool.false → (a.1 = Bool.true → ((0 : Nat) ≤ (0 : Nat) → Bool.true = Bool.true ∧
Bool.true = Bool.true ∧ (0 : Nat) ≤ (0 : Nat) ∧ ∀ (x2 : Nat) (x3 : List Value), x2 = (0 : Nat) → x3 = lput [] (0 : Nat) [] → ∃ (x4 : RW), (∀ (x5 : List Int), Sli (Value.int
IntKind.u8) (8 : Nat) a.1 a.2 a.3 a.4 a.5 x5 → Sli (Value.int IntKind.u8) (8 : Nat) a.1 (0 : Nat) a.3 x4.1 x4.2 x5) ∧ (a.1 = Bool.false ∧ (0 : Nat) = (0 : Nat) ∧ a.3 = x2 ∧ x4.1 =
(0 : Nat)) ∧ ((x4.1 = (0 : Nat) ∧ x3 = []) ∧ FlatL x4.2 ∧ x4.2 = x3) ∧ True) ∧ (¬(0 : Nat) ≤ (0 : Nat) → Few (0 : Nat) (8 : Nat) ∧ (0 : Nat) ≤ (0 : Nat) ∧ ∀ (x6 : Nat) (x7 : List
Value), x6 = (0 : Nat) → x7 = lwin [] (0 : Nat) (0 : Nat) ++ [] → ∃ (x8 : RW), (∀ (x9 : List Int), Sli (Value.int IntKind.u8) (8 : Nat) a.1 a.2 a.3 a.4 a.5 x9 → Sli (Value.int
IntKind.u8) (8 : Nat) a.1 (0 : Nat) a.3 x8.1 x8.2 x9) ∧ (a.1 = Bool.false ∧ (0 : Nat) = (0 : Nat) ∧ a.3 = x6 ∧ x8.1 = x6) ∧ (x8.1 = x6 ∧ FlatL x8.2 ∧ x8.2 = x7) ∧ True)) ∧ (a.1 =
Bool.false → a.2 + a.3 * (8 : Nat) ≤ List.length a.5 ∧ ∀ (x10 : List Value), x10 = lwin a.5 a.2 (a.3 * (8 : Nat)) → ((0 : Nat) + a.3 ≤ (0 : Nat) → Bool.true = Bool.true ∧ lall oneK
x10 = Bool.true ∧ (0 : Nat) + List.length x10 ≤ (0 : Nat) ∧ ∀ (x11 : Nat) (x12 : List Value), x11 = (0 : Nat) + a.3 → x12 = lput [] (0 : Nat) x10 → ∃ (x13 : RW), (∀ (x14 : List
Int), Sli (Value.int IntKind.u8) (8 : Nat) a.1 a.2 a.3 a.4 a.5 x14 → Sli (Value.int IntKind.u8) (8 : Nat) a.1 (0 : Nat) a.3 x13.1 x13.2 x14) ∧ (a.1 = Bool.false ∧ (0 : Nat) = (0 :
Nat) ∧ a.3 = x11 ∧ x13.1 = (0 : Nat)) ∧ ((x13.1 = (0 : Nat) ∧ x12 = []) ∧ FlatL x13.2 ∧ x13.2 = x12) ∧ True) ∧ (¬(0 : Nat) + a.3 ≤ (0 : Nat) → Few ((0 : Nat) + a.3) (8 : Nat) ∧ (0
: Nat) ≤ (0 : Nat) ∧ ∀ (x15 : Nat) (x16 : List Value), x15 = (0 : Nat) + a.3 → x16 = lwin [] (0 : Nat) (0 : Nat) ++ x10 → ∃ (x17 : RW), (∀ (x18 : List Int), Sli (Value.int
IntKind.u8) (8 : Nat) a.1 a.2 a.3 a.4 a.5 x18 → Sli (Value.int IntKind.u8) (8 : Nat) a.1 (0 : Nat) a.3 x17.1 x17.2 x18) ∧ (a.1 = Bool.false ∧ (0 : Nat) = (0 : Nat) ∧ a.3 = x15 ∧
x17.1 = x15) ∧ (x17.1 = x15 ∧ FlatL x17.2 ∧ x17.2 = x16) ∧ True)))) := by kernel_rfl
theorem vc_clone (a : PA) : G_clone a = ((True ∧ (∃ (x0 : List Int), Sli (Value.int IntKind.i32) (1 : Nat) a.1.1 a.1.2 a.1.3 a.1.4 a.1.5 x0) ∧ a.1.3 ≤ (1000 : Nat)) ∧ (((a.1.1 = a.1.1 ∧ a.1.2 = a.1.2 ∧ a.1.3 = a.1.3 ∧
a.1.4 = a.1.4) ∧ True) ∧ (True ∧ FlatL a.1.5 ∧ a.1.5 = a.1.5) ∧ True) ∧ (∀ (x1 : RW), (∀ (x2 : List Int), Sli (Value.int IntKind.i32) (1 : Nat) a.1.1 a.1.2 a.1.3 a.1.4 a.1.5 x2 →
Sli (Value.int IntKind.i32) (1 : Nat) a.1.1 (0 : Nat) a.1.3 x1.1 x1.2 x2) → (True ∧ (∃ (x3 : List Bool), Sli Value.bool (1 : Nat) a.2.1 a.2.2 a.2.3 a.2.4 a.2.5 x3) ∧ a.2.3 ≤ (1000
: Nat)) ∧ (((a.2.1 = a.2.1 ∧ a.2.2 = a.2.2 ∧ a.2.3 = a.2.3 ∧ a.2.4 = a.2.4) ∧ True) ∧ (True ∧ FlatL a.2.5 ∧ a.2.5 = a.2.5) ∧ True) ∧ (∀ (x4 : RW), (∀ (x5 : List Bool), Sli
Value.bool (1 : Nat) a.2.1 a.2.2 a.2.3 a.2.4 a.2.5 x5 → Sli Value.bool (1 : Nat) a.2.1 (0 : Nat) a.2.3 x4.1 x4.2 x5) → (True ∧ (∃ (x6 : List Int), Sli (Value.int IntKind.u8) (8 :
Nat) a.3.1 a.3.2 a.3.3 a.3.4 a.3.5 x6) ∧ a.3.3 ≤ (1000 : Nat)) ∧ (((a.3.1 = a.3.1 ∧ a.3.2 = a.3.2 ∧ a.3.3 = a.3.3 ∧ a.3.4 = a.3.4) ∧ True) ∧ (True ∧ FlatL a.3.5 ∧ a.3.5 = a.3.5) ∧
True) ∧ (∀ (x7 : RW), (∀ (x8 : List Int), Sli (Value.int IntKind.u8) (8 : Nat) a.3.1 a.3.2 a.3.3 a.3.4 a.3.5 x8 → Sli (Value.int IntKind.u8) (8 : Nat) a.3.1 (0 : Nat) a.3.3 x7.1
x7.2 x8) → (True ∧ True ∧ True ∧ (True ∧ True) ∧ (W_G_clone_0 a = W_G_clone_0 a ∧ True) ∧ True ∧ (True ∧ True ∧ True) ∧ (W_G_clone_0 a = W_G_clone_0 a ∧ W_G_clone_0 a = W_G_clone_0
a ∧ True) ∧ True ∧ (True ∧ True ∧ True ∧ True) ∧ (W_G_clone_0 a = W_G_clone_0 a ∧ W_G_clone_0 a = W_G_clone_0 a ∧ W_G_clone_0 a = W_G_clone_0 a ∧ True) ∧ True ∧ True ∧ True) ∧ ∃
(x9 : PB), (∀ (x10 : PX), PH a x10 → PH (PA.mk (SA.mk a.1.1 (0 : Nat) a.1.3 x9.1.1 x9.1.2) (SA.mk a.2.1 (0 : Nat) a.2.3 x9.2.1 x9.2.2) (SA.mk a.3.1 (0 : Nat) a.3.3 x9.3.1 x9.3.2)
a.4 a.5 a.6 a.7 a.8) x10) ∧ ((a.1.1 = a.1.1 ∧ (0 : Nat) = (0 : Nat) ∧ a.1.3 = a.1.3 ∧ x9.1.1 = x1.1) ∧ (a.2.1 = a.2.1 ∧ (0 : Nat) = (0 : Nat) ∧ a.2.3 = a.2.3 ∧ x9.2.1 = x4.1) ∧
(a.3.1 = a.3.1 ∧ (0 : Nat) = (0 : Nat) ∧ a.3.3 = a.3.3 ∧ x9.3.1 = x7.1) ∧ a.4 = a.4 ∧ a.5 = a.5 ∧ a.6 = a.6 ∧ a.7 = a.7 ∧ a.8 = a.8 ∧ True) ∧ (x9.1.1 = x1.1 ∧ FlatL x9.1.2 ∧ x9.1.2
= x1.2) ∧ (x9.2.1 = x4.1 ∧ FlatL x9.2.2 ∧ x9.2.2 = x4.2) ∧ (x9.3.1 = x7.1 ∧ FlatL x9.3.2 ∧ x9.3.2 = x7.2) ∧ True) ∧ True) ∧ True) ∧ True) := by kernel_rfl
theorem g_cli32 (a : SA) (hp : ∃ xs, Sli (Value.int .i32) 1 a.n a.o a.l a.k a.c xs) (hl : a.l ≤ 1000) : G_cli32 a := by
  obtain ⟨ys, hy⟩ := hp
  have uniq : a.n = true → a.l = 0 ∧ ∀ zs, Sli (Value.int .i32) 1 a.n a.o a.l a.k a.c zs → Sli (Value.int .i32) 1 true 0 a.l 0 [] zs := fun hn => ⟨(hy.nil hn).1, fun zs hz => by
    have hz0 := hz.nilE hn
    subst hz0
    rw [(hy.nil hn).1]; exact .none⟩
  rw [vc_cli32]
  refine ⟨fun hn => ⟨⟨0, []⟩, fun xs hx => by (rw [hn]; exact (uniq hn).2 xs hx), ⟨hn, (uniq hn).1, rfl⟩, ⟨flatL_nil, trivial⟩, trivial⟩, fun hn => ⟨fun hc => absurd (hc.symm.trans hn) (by decide), fun _ => ⟨by have := hy.fit hn; omega, fun xs hxs => ?_⟩⟩⟩
  have hw : HW (Value.int .i32) xs ys := by rw [hxs]; exact hy.win hn
  have hlen : ys.length = a.l * 1 := hy.len
  have hxl : xs.length = a.l * 1 := hw.len.trans hlen
  have fin : ∀ (c : List Value) (k : Nat), c = xs → a.l ≤ k → ∀ zs, Sli (Value.int .i32) 1 a.n a.o a.l a.k a.c zs → Sli (Value.int .i32) 1 a.n 0 a.l k c zs := fun c k hc hk zs hz => by
    subst hc
    rw [hn]
    have hw2 : HW (Value.int .i32) c zs := by rw [hxs]; exact hz.win hn
    exact .row hw2 hz.len hk hw2.flat
  refine ⟨fun h0 => ⟨rfl, hw.oneK, by omega, fun n c hn' hc => ?_⟩, fun h0 => ⟨by unfold Few; omega, by omega, fun n c hn' hc => ?_⟩⟩
  · have hx0 : xs = [] := List.eq_nil_of_length_eq_zero (by omega)
    have hc0 : c = [] := by rw [hc, hx0]; rfl
    exact ⟨⟨0, c⟩, fin c 0 (by rw [hc0, hx0]) (by omega), ⟨hn, rfl, by omega, rfl⟩, ⟨⟨rfl, hc0⟩, by rw [hc0]; exact flatL_nil, rfl⟩, trivial⟩
  · have hcx : c = xs := by rw [hc]; rfl
    exact ⟨⟨n, c⟩, fin c n hcx (by omega), ⟨hn, rfl, by omega, rfl⟩, ⟨rfl, by rw [hcx]; exact hw.flat, rfl⟩, trivial⟩
theorem s_cli32 : SpecOK Tryz.prog S_cli32.spec := fun a => specD_at (an := []) envOK cw0_ok fun hp => g_cli32 a hp.1 hp.2
theorem g_clbool (a : SA) (hp : ∃ xs, Sli (Value.bool) 1 a.n a.o a.l a.k a.c xs) (hl : a.l ≤ 1000) : G_clbool a := by
  obtain ⟨ys, hy⟩ := hp
  have uniq : a.n = true → a.l = 0 ∧ ∀ zs, Sli (Value.bool) 1 a.n a.o a.l a.k a.c zs → Sli (Value.bool) 1 true 0 a.l 0 [] zs := fun hn => ⟨(hy.nil hn).1, fun zs hz => by
    have hz0 := hz.nilE hn
    subst hz0
    rw [(hy.nil hn).1]; exact .none⟩
  rw [vc_clbool]
  refine ⟨fun hn => ⟨⟨0, []⟩, fun xs hx => by (rw [hn]; exact (uniq hn).2 xs hx), ⟨hn, (uniq hn).1, rfl⟩, ⟨flatL_nil, trivial⟩, trivial⟩, fun hn => ⟨fun hc => absurd (hc.symm.trans hn) (by decide), fun _ => ⟨by have := hy.fit hn; omega, fun xs hxs => ?_⟩⟩⟩
  have hw : HW (Value.bool) xs ys := by rw [hxs]; exact hy.win hn
  have hlen : ys.length = a.l * 1 := hy.len
  have hxl : xs.length = a.l * 1 := hw.len.trans hlen
  have fin : ∀ (c : List Value) (k : Nat), c = xs → a.l ≤ k → ∀ zs, Sli (Value.bool) 1 a.n a.o a.l a.k a.c zs → Sli (Value.bool) 1 a.n 0 a.l k c zs := fun c k hc hk zs hz => by
    subst hc
    rw [hn]
    have hw2 : HW (Value.bool) c zs := by rw [hxs]; exact hz.win hn
    exact .row hw2 hz.len hk hw2.flatB
  refine ⟨fun h0 => ⟨rfl, hw.oneB, by omega, fun n c hn' hc => ?_⟩, fun h0 => ⟨by unfold Few; omega, by omega, fun n c hn' hc => ?_⟩⟩
  · have hx0 : xs = [] := List.eq_nil_of_length_eq_zero (by omega)
    have hc0 : c = [] := by rw [hc, hx0]; rfl
    exact ⟨⟨0, c⟩, fin c 0 (by rw [hc0, hx0]) (by omega), ⟨hn, rfl, by omega, rfl⟩, ⟨⟨rfl, hc0⟩, by rw [hc0]; exact flatL_nil, rfl⟩, trivial⟩
  · have hcx : c = xs := by rw [hc]; rfl
    exact ⟨⟨n, c⟩, fin c n hcx (by omega), ⟨hn, rfl, by omega, rfl⟩, ⟨rfl, by rw [hcx]; exact hw.flatB, rfl⟩, trivial⟩
theorem s_clbool : SpecOK Tryz.prog S_clbool.spec := fun a => specD_at (an := []) envOK cw0_ok fun hp => g_clbool a hp.1 hp.2
theorem g_cldig (a : SA) (hp : ∃ xs, Sli (Value.int .u8) 8 a.n a.o a.l a.k a.c xs) (hl : a.l ≤ 1000) : G_cldig a := by
  obtain ⟨ys, hy⟩ := hp
  have uniq : a.n = true → a.l = 0 ∧ ∀ zs, Sli (Value.int .u8) 8 a.n a.o a.l a.k a.c zs → Sli (Value.int .u8) 8 true 0 a.l 0 [] zs := fun hn => ⟨(hy.nil hn).1, fun zs hz => by
    have hz0 := hz.nilE hn
    subst hz0
    rw [(hy.nil hn).1]; exact .none⟩
  rw [vc_cldig]
  refine ⟨fun hn => ⟨⟨0, []⟩, fun xs hx => by (rw [hn]; exact (uniq hn).2 xs hx), ⟨hn, (uniq hn).1, rfl⟩, ⟨flatL_nil, trivial⟩, trivial⟩, fun hn => ⟨fun hc => absurd (hc.symm.trans hn) (by decide), fun _ => ⟨by have := hy.fit hn; omega, fun xs hxs => ?_⟩⟩⟩
  have hw : HW (Value.int .u8) xs ys := by rw [hxs]; exact hy.win hn
  have hlen : ys.length = a.l * 8 := hy.len
  have hxl : xs.length = a.l * 8 := hw.len.trans hlen
  have fin : ∀ (c : List Value) (k : Nat), c = xs → a.l ≤ k → ∀ zs, Sli (Value.int .u8) 8 a.n a.o a.l a.k a.c zs → Sli (Value.int .u8) 8 a.n 0 a.l k c zs := fun c k hc hk zs hz => by
    subst hc
    rw [hn]
    have hw2 : HW (Value.int .u8) c zs := by rw [hxs]; exact hz.win hn
    exact .row hw2 hz.len hk hw2.flat
  refine ⟨fun h0 => ⟨rfl, hw.oneK, by omega, fun n c hn' hc => ?_⟩, fun h0 => ⟨by unfold Few; omega, by omega, fun n c hn' hc => ?_⟩⟩
  · have hx0 : xs = [] := List.eq_nil_of_length_eq_zero (by omega)
    have hc0 : c = [] := by rw [hc, hx0]; rfl
    exact ⟨⟨0, c⟩, fin c 0 (by rw [hc0, hx0]) (by omega), ⟨hn, rfl, by omega, rfl⟩, ⟨⟨rfl, hc0⟩, by rw [hc0]; exact flatL_nil, rfl⟩, trivial⟩
  · have hcx : c = xs := by rw [hc]; rfl
    exact ⟨⟨n, c⟩, fin c n hcx (by omega), ⟨hn, rfl, by omega, rfl⟩, ⟨rfl, by rw [hcx]; exact hw.flat, rfl⟩, trivial⟩
theorem s_cldig : SpecOK Tryz.prog S_cldig.spec := fun a => specD_at (an := []) envOK cw0_ok fun hp => g_cldig a hp.1 hp.2
theorem g_clone (a : PA) (hp : ∃ x, PH a x) (h1 : a.s1.l ≤ 1000) (h2 : a.s2.l ≤ 1000) (h3 : a.s3.l ≤ 1000) : G_clone a := by
  obtain ⟨x, hx⟩ := hp
  rw [vc_clone]
  refine ⟨⟨trivial, ⟨_, hx.p1⟩, h1⟩, ⟨⟨⟨rfl, rfl, rfl, rfl⟩, trivial⟩, ⟨trivial, hx.p1.flat, rfl⟩, trivial⟩, fun b1 q1 => ⟨⟨trivial, ⟨_, hx.p2⟩, h2⟩, ⟨⟨⟨rfl, rfl, rfl, rfl⟩, trivial⟩, ⟨trivial, hx.p2.flat, rfl⟩, trivial⟩, fun b2 q2 => ⟨⟨trivial, ⟨_, hx.p3⟩, h3⟩, ⟨⟨⟨rfl, rfl, rfl, rfl⟩, trivial⟩, ⟨trivial, hx.p3.flat, rfl⟩, trivial⟩, fun b3 q3 => ⟨?_, ⟨⟨b1, b2, b3⟩, fun y hy => ⟨q1 _ hy.p1, q2 _ hy.p2, q3 _ hy.p3⟩, ?_, ⟨rfl, (q1 _ hx.p1).flat, rfl⟩, ⟨rfl, (q2 _ hx.p2).flat, rfl⟩, ⟨rfl, (q3 _ hx.p3).flat, rfl⟩, trivial⟩⟩, trivial⟩, trivial⟩, trivial⟩
  all_goals repeat' first
    | with_reducible apply And.intro
    | exact trivial
    | exact rfl
theorem s_clone : SpecOK Tryz.prog S_clone.spec := fun a => specD_at (an := []) envOK (cwD_ok s_cli32 (cwD_ok s_clbool (cwD_ok s_cldig cw0_ok))) fun hp => g_clone a hp.1 hp.2.1 hp.2.2.1 hp.2.2.2
end Go.Proofs.YthcldogebnjohaaGreatDoor
end

/- The document's bytes of a position: what is told of Encode and Same (what is to be shown). -/
section
set_option maxRecDepth 100000
namespace Go.Proofs.YthcldogebnjohaaGreatDoor
open Go.Ev
-- keep num foldI dnum encV encG encT enc1 enc2 enc3 enc Go.Ev.Sli PH
def dnum (l : List Int) : Int := l.foldr (fun b acc => IntKind.wrap .u64 (IntKind.wrap .u64 (acc * 256) + IntKind.wrap .u64 b)) 0
def encV (xs : List Int) (k : Nat) : List Int := (List.range k).flatMap fun j => num (foldI (xs.getD j 0)).toNat
def encG (xs : List Bool) (k : Nat) : List Int := (List.range k).flatMap fun j => num (if xs.getD j false then 1 else 0)
def encT (xs : List Int) (k : Nat) : List Int := (List.range k).flatMap fun j => num (dnum [xs.getD (8 * j) 0, xs.getD (8 * j + 1) 0, xs.getD (8 * j + 2) 0, xs.getD (8 * j + 3) 0, xs.getD (8 * j + 4) 0, xs.getD (8 * j + 5) 0, xs.getD (8 * j + 6) 0, xs.getD (8 * j + 7) 0]).toNat
structure D8 where
  d0 : Int
  d1 : Int
  d2 : Int
  d3 : Int
  d4 : Int
  d5 : Int
  d6 : Int
  d7 : Int
def D8.l (d : D8) : List Int := [d.d0, d.d1, d.d2, d.d3, d.d4, d.d5, d.d6, d.d7]
def enc1 (x : PX) (k : Nat) : List Int := num x.vars.length ++ encV x.vars k
def enc2 (x : PX) (k : Nat) : List Int := enc1 x x.vars.length ++ num x.gone.length ++ encG x.gone k
def enc3 (x : PX) (n k : Nat) : List Int := enc2 x x.gone.length ++ num n ++ encT x.tips k
def encR (a : PA) : List Int := num (foldI a.r0).toNat ++ num (foldI a.r1).toNat ++ num (foldI a.r2).toNat ++ num (foldI a.r3).toNat ++ num a.r4.toNat
def enc (a : PA) (x : PX) : List Int := enc3 x a.s3.l a.s3.l ++ encR a
set_option linter.unusedSectionVars false
variable [Go.Ev.Frozen Tryz.prog]
noncomputable section
structure S2 where
  a : SA
  b : SA
structure BL where
  b : Bool
structure IL where
  i : Int
end
end Go.Proofs.YthcldogebnjohaaGreatDoor
end

/- The document's bytes of a position: what is told of Encode and Same is so. -/
section
set_option maxRecDepth 100000
namespace Go.Proofs.YthcldogebnjohaaGreatDoor
open Go.Ev
set_option linter.unusedSectionVars false
variable [Go.Ev.Frozen Tryz.prog]
theorem Rd.int {k : IntKind} {c : List Value} {o : Nat} {x y : Int} (h : Rd c o (.int k x)) (g : Rd c o (.int k y)) : x = y := by
  unfold Rd at h g
  rcases h with h | h <;> rcases g with g | g <;> rw [h] at g <;> first | (cases g; rfl) | (injection g with g; cases g)
theorem Rd.bool {c : List Value} {o : Nat} {x y : Bool} (h : Rd c o (.bool x)) (g : Rd c o (.bool y)) : x = y := by
  unfold Rd at h g
  rcases h with h | h <;> rcases g with g | g <;> rw [h] at g <;> first | (cases g; rfl) | (injection g with g; cases g)
theorem HV.uniq {α : Type} {f : α → Value} (hf : ∀ c o x y, Rd c o (f x) → Rd c o (f y) → x = y) {c : List Value} {o : Nat} {xs ys : List α} (h : HV f c o xs) (g : HV f c o ys) (hl : xs.length = ys.length) : xs = ys := by
  apply List.ext_getElem hl
  intro i h1 h2
  exact hf c (o + i) _ _ (h.get h1) (g.get h2)
theorem Sli.uniqI {k : IntKind} {sz o l k' : Nat} {nb : Bool} {c : List Value} {xs ys : List Int} (h : Sli (Value.int k) sz nb o l k' c xs) (g : Sli (Value.int k) sz nb o l k' c ys) : xs = ys := HV.uniq (fun _ _ _ _ => Rd.int) h.at_ g.at_ (h.len.trans g.len.symm)
theorem Sli.uniqB {sz o l k' : Nat} {nb : Bool} {c : List Value} {xs ys : List Bool} (h : Sli Value.bool sz nb o l k' c xs) (g : Sli Value.bool sz nb o l k' c ys) : xs = ys := HV.uniq (fun _ _ _ _ => Rd.bool) h.at_ g.at_ (h.len.trans g.len.symm)
theorem PH.uniq {a : PA} {x y : PX} (h : PH a x) (g : PH a y) : x = y := by
  obtain ⟨x1, x2, x3⟩ := x
  obtain ⟨y1, y2, y3⟩ := y
  have e1 : x1 = y1 := Sli.uniqI h.p1 g.p1
  have e2 : x2 = y2 := Sli.uniqB h.p2 g.p2
  have e3 : x3 = y3 := Sli.uniqI h.p3 g.p3
  rw [e1, e2, e3]
theorem getD_get {xs : List Int} {i : Nat} (h : i < xs.length) : xs.getD i 0 = xs[i] := by simp [List.getD, h]
end Go.Proofs.YthcldogebnjohaaGreatDoor
end

/- The program's numbers as bytes, digests as numbers: what is told of hash.Num, FromNum, octet's Put.. (what is to be shown). -/
section
set_option maxRecDepth 100000
namespace Go.Proofs.YthcldogebnjohaaGreatDoor
open Go.Ev
-- keep num foldI dnum frm Go.Ev.Sli
def frm (n : Int) : D8 := ⟨n % 256, n / 256 % 256, n / 65536 % 256, n / 16777216 % 256, n / 4294967296 % 256, n / 1099511627776 % 256, n / 281474976710656 % 256, n / 72057594037927936 % 256⟩
def byt (n : Int) : Prop := 0 ≤ n ∧ n ≤ 255
structure D8.Ok (d : D8) : Prop where
  h0 : byt d.d0
  h1 : byt d.d1
  h2 : byt d.d2
  h3 : byt d.d3
  h4 : byt d.d4
  h5 : byt d.d5
  h6 : byt d.d6
  h7 : byt d.d7
structure OW where
  l : Nat
  k : Nat
  c : List Value
structure OwB (b : OW) (xs : List Int) : Prop where
  at_ : HI .u8 b.c 0 xs
  l : b.l = xs.length
  k : b.c.length = b.k
  le : b.l ≤ b.k
  flat : FlatL b.c
  one : lall oneK b.c = true
set_option linter.unusedSectionVars false
variable [Go.Ev.Frozen Tryz.prog]
noncomputable section
def wI {β : Type} (v : Value) (k : Int → Option β) : Option β := match v with
  | .int _ z => k z
  | .iface _ (.int _ z) => k z
  | _ => k 0
def rowK {β : Type} (A : AW) (b : Nat) (k : List Value → Option β) : Option β := Option.rec (k []) (fun o => AO.rec (fun c _ _ => k c) (fun _ _ => k []) (k []) o) (A.heap.get b)
def saK {β : Type} (A : AW) (i : Nat) (v : Value) (k : SA → List (Nat × Nat) → Option β) : Option β := match v with
  | .slice (some ⟨b, o, _⟩) l c => rowK A b fun r => k ⟨false, o, l, c, r⟩ [(i, b)]
  | .iface _ (.slice (some ⟨b, o, _⟩) l c) => rowK A b fun r => k ⟨false, o, l, c, r⟩ [(i, b)]
  | .iface _ (.agg ⟨[.bool nb, .slice (some ⟨b, o, _⟩) l c]⟩) => rowK A b fun r => k ⟨nb, o, l, c, r⟩ [(i, b)]
  | _ => k ⟨true, 0, 0, 0, []⟩ []
def ptK {β : Type} (v : Value) (k : Nat → Option β) : Option β := match v with
  | .pointer (some ⟨b, _, _⟩) => k b
  | .iface _ (.pointer (some ⟨b, _, _⟩)) => k b
  | _ => k 0
abbrev D8.v (d : D8) : Value := .agg ⟨[tgI .u8 d.d0, tgI .u8 d.d1, tgI .u8 d.d2, tgI .u8 d.d3, tgI .u8 d.d4, tgI .u8 d.d5, tgI .u8 d.d6, tgI .u8 d.d7]⟩
end
end Go.Proofs.YthcldogebnjohaaGreatDoor
end

/- The program's numbers as bytes, digests as numbers: what is told of hash.Num, FromNum, octet's Put.. is so. -/
section
set_option maxRecDepth 100000
namespace Go.Proofs.YthcldogebnjohaaGreatDoor
open Go.Ev
set_option linter.unusedSectionVars false
variable [Go.Ev.Frozen Tryz.prog]
theorem HV.lput {k : IntKind} {c vs : List Value} {xs ys : List Int} {o : Nat} (h : HV (Value.int k) c 0 xs) (g : HE k vs ys) (ho : o = xs.length) (hf : o + vs.length ≤ c.length) : HV (Value.int k) (Ev.lput c o vs) 0 (xs ++ ys) := fun i x hx => by
  rw [Nat.zero_add]
  by_cases hi : i < xs.length
  · rw [List.getElem?_append_left hi] at hx
    have := h i x hx
    rw [Nat.zero_add] at this
    unfold Rd Ev.lput at *
    rw [List.getElem?_append_left (by simp; omega), List.getElem?_take_of_lt (by omega)]; exact this
  · rw [List.getElem?_append_right (by omega)] at hx
    have hy : i - xs.length < ys.length := (List.getElem?_eq_some_iff.1 hx).1
    have := g.at_ _ x hx
    rw [Nat.zero_add] at this
    have hl := g.len
    unfold Rd Ev.lput at *
    rw [List.getElem?_append_right (by simp; omega), List.getElem?_append_left (by simp; omega)]
    rw [show i - (List.take o c).length = i - xs.length by simp; omega]; exact this
theorem OwB.uniq {b : OW} {xs ys : List Int} (h : OwB b xs) (g : OwB b ys) : xs = ys := HV.uniq (fun _ _ _ _ => Rd.int) h.at_ g.at_ (h.l.symm.trans g.l)
end Go.Proofs.YthcldogebnjohaaGreatDoor
end

/- Functions that are run as they are; calls that were reckoned ahead. -/
section
set_option maxRecDepth 100000
namespace Go.Proofs.YthcldogebnjohaaGreatDoor
open Go.Ev
set_option linter.unusedSectionVars false
variable [Go.Ev.Frozen Tryz.prog]
noncomputable section
def cwX0 : CW := fun _ _ _ _ => False
def cwX (s : CW → CW) : Nat → CW
  | 0 => cwX0
  | n + 1 => s fun f args A K => fnW Tryz.prog E0 (cwX s n) [] f args A K
end
theorem cwX0_ok : CwOK Tryz.prog cwX0 := fun _ _ _ _ h => h.elim
theorem cwX_ok {s : CW → CW} (hs : ∀ cw, CwOK Tryz.prog cw → CwOK Tryz.prog (s cw)) : ∀ n, CwOK Tryz.prog (cwX s n) := by
  intro n
  induction n with
  | zero => exact cwX0_ok
  | succ n ih => exact hs _ (cw_fn envOK ih)
end Go.Proofs.YthcldogebnjohaaGreatDoor
end
