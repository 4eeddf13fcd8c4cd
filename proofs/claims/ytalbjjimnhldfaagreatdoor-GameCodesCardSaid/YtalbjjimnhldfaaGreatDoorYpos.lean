/- Positions: what is told of Cut and Clone (what is to be shown). -/
import Derived.Test.YtalbjjimnhldfaaGreatDoorGlob
section
set_option maxRecDepth 100000
namespace Go.Proofs.YtalbjjimnhldfaaGreatDoor
open Go.Ev
-- keep Go.Ev.Sli PH
structure SA where
  n : Bool
  o : Nat
  l : Nat
  k : Nat
  c : List Value
structure PA where
  s1 : SA
  s2 : SA
  s3 : SA
  r0 : Int
  r1 : Int
  r2 : Int
  r3 : Int
  r4 : Int
structure PX where
  vars : List Int
  gone : List Bool
  tips : List Int
structure PH (a : PA) (x : PX) : Prop where
  p1 : Sli (Value.int .i32) 1 a.s1.n a.s1.o a.s1.l a.s1.k a.s1.c x.vars
  p2 : Sli Value.bool 1 a.s2.n a.s2.o a.s2.l a.s2.k a.s2.c x.gone
  p3 : Sli (Value.int .u8) 8 a.s3.n a.s3.o a.s3.l a.s3.k a.s3.c x.tips
structure RW where
  k : Nat
  c : List Value
noncomputable section
abbrev SA.v (a : SA) (i : Nat) : Value := mnS i a.n a.o a.l a.k
abbrev Z4 (s : SA) : Prop := s.1 = s.1 ∧ s.2 = s.2 ∧ s.3 = s.3 ∧ s.4 = s.4
abbrev ZF (c : List Value) : Prop := True ∧ FlatL c ∧ c = c
abbrev ZR (a : PA) : Prop := a.4 = a.4 ∧ a.5 = a.5 ∧ a.6 = a.6 ∧ a.7 = a.7 ∧ a.8 = a.8 ∧ True
abbrev SB := @Sli Int (Value.int IntKind.u8) 1
def saOf (A : AW) (v : Value) : SA := ⟨(slOf v).nb, (slOf v).o, (slOf v).l, (slOf v).c, rowV A v⟩
abbrev rolls (a : PA) : List Value := [tgI .i64 a.r0, tgI .i64 a.r1, tgI .i64 a.r2, tgI .i64 a.r3, tgI .u64 a.r4]
abbrev PA.v (a : PA) (i : Nat) : Value := .agg ⟨a.s1.v i :: a.s2.v (i + 1) :: a.s3.v (i + 2) :: rolls a⟩
abbrev PA.R (a : PA) (i : Nat) (e : TypeId) : List (Nat × PO) := [(i, .f a.s1.c 21 .gro), (i + 1, .f a.s2.c 4 .gro), (i + 2, .f a.s3.c e .gro)]
def paOf (A : AW) (l : List Value) : PA := ⟨saOf A (lv l 0), saOf A (lv l 1), saOf A (lv l 2), iv (lv l 3), iv (lv l 4), iv (lv l 5), iv (lv l 6), iv (lv l 7)⟩
def paN (i : Nat) (l : List Value) : List (Nat × Nat) := renS i (lv l 0) ++ (renS (i + 1) (lv l 1) ++ renS (i + 2) (lv l 2))
def S_cli32 : SpecD where
  f := 48
  α := SA
  args a := [a.v 12]
  R a := [(12, .f a.c 21 .gro)]
  n := 12 + 1
  pre a := (∃ xs, Sli (Value.int .i32) 1 a.n a.o a.l a.k a.c xs) ∧ a.l ≤ 100
  outs := [⟨RW, fun a b => ∀ xs, Sli (Value.int .i32) 1 a.n a.o a.l a.k a.c xs → Sli (Value.int .i32) 1 a.n 0 a.l b.k b.c xs, fun a b => mnS (12 + 1) a.n 0 a.l b.k, fun _ b => [(12 + 1, .f b.c 21 (.grown b.k))], fun _ _ => 12 + 2, fun v _ => renS (12 + 1) v⟩]
  pick _ _ := 0
  find l A := some (saOf A (lv l 0), renS 12 (lv l 0))
def G_cli32 (a : SA) : Prop := fnW Tryz.prog E0 cw0 [] S_cli32.f (S_cli32.args a) (mem (S_cli32.R a) S_cli32.n) (endD Tryz.prog S_cli32 a)
def S_clbool : SpecD where
  f := 49
  α := SA
  args a := [a.v 12]
  R a := [(12, .f a.c 4 .gro)]
  n := 12 + 1
  pre a := (∃ xs, Sli (Value.bool) 1 a.n a.o a.l a.k a.c xs) ∧ a.l ≤ 100
  outs := [⟨RW, fun a b => ∀ xs, Sli (Value.bool) 1 a.n a.o a.l a.k a.c xs → Sli (Value.bool) 1 a.n 0 a.l b.k b.c xs, fun a b => mnS (12 + 1) a.n 0 a.l b.k, fun _ b => [(12 + 1, .f b.c 4 (.grown b.k))], fun _ _ => 12 + 2, fun v _ => renS (12 + 1) v⟩]
  pick _ _ := 0
  find l A := some (saOf A (lv l 0), renS 12 (lv l 0))
def G_clbool (a : SA) : Prop := fnW Tryz.prog E0 cw0 [] S_clbool.f (S_clbool.args a) (mem (S_clbool.R a) S_clbool.n) (endD Tryz.prog S_clbool a)
def S_cldig : SpecD where
  f := 39
  α := SA
  args a := [a.v 12]
  R a := [(12, .f a.c 29 .gro)]
  n := 12 + 1
  pre a := (∃ xs, Sli (Value.int .u8) 8 a.n a.o a.l a.k a.c xs) ∧ a.l ≤ 100
  outs := [⟨RW, fun a b => ∀ xs, Sli (Value.int .u8) 8 a.n a.o a.l a.k a.c xs → Sli (Value.int .u8) 8 a.n 0 a.l b.k b.c xs, fun a b => mnS (12 + 1) a.n 0 a.l b.k, fun _ b => [(12 + 1, .f b.c 29 (.grown b.k))], fun _ _ => 12 + 2, fun v _ => renS (12 + 1) v⟩]
  pick _ _ := 0
  find l A := some (saOf A (lv l 0), renS 12 (lv l 0))
def G_cldig (a : SA) : Prop := fnW Tryz.prog E0 cw0 [] S_cldig.f (S_cldig.args a) (mem (S_cldig.R a) S_cldig.n) (endD Tryz.prog S_cldig a)
def S_cut : SpecD where
  f := 25
  α := PA
  args a := [a.v 12]
  R a := a.R 12 29
  n := 12 + 3
  pre a := (∃ x, PH a x) ∧ True
  outs := [⟨Unit, fun _ _ => True, fun a _ => .agg ⟨mnS 12 a.s1.n a.s1.o (min a.s1.l 70) a.s1.k :: mnS (12 + 1) a.s2.n a.s2.o (min a.s2.l 10) a.s2.k :: mnS (12 + 2) a.s3.n a.s3.o (min a.s3.l 10) a.s3.k :: rolls a⟩, fun _ _ => [], fun _ _ => 12 + 3, fun _ _ => []⟩]
  pick _ _ := 0
  find l A := some (paOf A (agv (lv l 0)), paN 12 (agv (lv l 0)))
def G_cut (a : PA) : Prop := fnW Tryz.prog E0 cw0 [] S_cut.f (S_cut.args a) (mem (S_cut.R a) S_cut.n) (endD Tryz.prog S_cut a)
def cwCl : CW := cwD Tryz.prog S_cli32 (cwD Tryz.prog S_clbool (cwD Tryz.prog S_cldig cw0))
structure PB where
  b1 : RW
  b2 : RW
  b3 : RW
def PB.pa (b : PB) (a : PA) : PA := ⟨⟨a.s1.n, 0, a.s1.l, b.b1.k, b.b1.c⟩, ⟨a.s2.n, 0, a.s2.l, b.b2.k, b.b2.c⟩, ⟨a.s3.n, 0, a.s3.l, b.b3.k, b.b3.c⟩, a.r0, a.r1, a.r2, a.r3, a.r4⟩
def S_clone : SpecD where
  f := 14
  α := PA
  args a := [a.v 12]
  R a := a.R 12 29
  n := 12 + 3
  pre a := (∃ x, PH a x) ∧ (a.s1.l ≤ 100 ∧ a.s2.l ≤ 100 ∧ a.s3.l ≤ 100)
  outs := [⟨PB, fun a b => ∀ x, PH a x → PH (b.pa a) x, fun a b => .agg ⟨mnS (12 + 3) a.s1.n 0 a.s1.l b.b1.k :: mnS (12 + 4) a.s2.n 0 a.s2.l b.b2.k :: mnS (12 + 5) a.s3.n 0 a.s3.l b.b3.k :: rolls a⟩,
    fun _ b => [(12 + 3, .f b.b1.c 21 (.grown b.b1.k)), (12 + 4, .f b.b2.c 4 (.grown b.b2.k)), (12 + 5, .f b.b3.c 29 (.grown b.b3.k))], fun _ _ => 12 + 6, fun v _ => paN (12 + 3) (agv v)⟩]
  pick _ _ := 0
  find l A := some (paOf A (agv (lv l 0)), paN 12 (agv (lv l 0)))
def G_clone (a : PA) : Prop := fnW Tryz.prog E0 cwCl [] S_clone.f (S_clone.args a) (mem (S_clone.R a) S_clone.n) (endD Tryz.prog S_clone a)
end
end Go.Proofs.YtalbjjimnhldfaaGreatDoor
end

/- Positions: what is told of Cut and Clone is so. -/
set_option maxRecDepth 100000
namespace Go.Proofs.YtalbjjimnhldfaaGreatDoor
open Go.Ev
noncomputable section
def W_G_cut_0 : PA → Option AO := fun (a : PA) => Option.some (AO.row a.2.5 (4 : Nat) Md.gro)
def W_G_cut_1 : PA → Option AO := fun (a : PA) => Option.some (AO.row a.3.5 (29 : Nat) Md.gro)
def W_G_clone_0 : PA → Option AO := fun (a : PA) => Option.some (AO.row (Array.toList (Array.mk [Value.iface (1000000009 : Nat) (Value.agg (Array.mk [Value.bool a.1.1, Value.slice (Option.some (Addr.mk (12 : Nat)
a.1.2 Option.none)) a.1.3 a.1.4])), Value.iface (1000000009 : Nat) (Value.agg (Array.mk [Value.bool a.2.1, Value.slice (Option.some (Addr.mk (13 : Nat) a.2.2 Option.none)) a.2.3
a.2.4])), Value.iface (1000000009 : Nat) (Value.agg (Array.mk [Value.bool a.3.1, Value.slice (Option.some (Addr.mk (14 : Nat) a.3.2 Option.none)) a.3.3 a.3.4])), Value.iface
(1000000007 : Nat) (Value.int IntKind.i64 a.4), Value.iface (1000000007 : Nat) (Value.int IntKind.i64 a.5), Value.iface (1000000007 : Nat) (Value.int IntKind.i64 a.6), Value.iface
(1000000007 : Nat) (Value.int IntKind.i64 a.7), Value.iface (1000000007 : Nat) (Value.int IntKind.u64 a.8)])) (37 : Nat) Md.own)
end
theorem vc_cli32 (a : SA) : G_cli32 a = ((a.1 = true → ∃ (x0 : RW), (∀ (x1 : List Int), Sli (Value.int IntKind.i32) 1 a.1 a.2 a.3 a.4 a.5 x1 → Sli (Value.int IntKind.i32) 1 a.1 0 a.3 x0.1 x0.2 x1) ∧ (a.1 = true ∧ a.3 = 0
∧ x0.1 = 0) ∧ (FlatL x0.2 ∧ True) ∧ True) ∧ (a.1 = false → (a.1 = true → (0 ≤ 0 → true = true ∧ true = true ∧ 0 ≤ 0 ∧ ∀ (x2 : Nat) (x3 : List Value), x2 = 0 → x3 = lput [] 0 [] → ∃
(x4 : RW), (∀ (x5 : List Int), Sli (Value.int IntKind.i32) 1 a.1 a.2 a.3 a.4 a.5 x5 → Sli (Value.int IntKind.i32) 1 a.1 0 a.3 x4.1 x4.2 x5) ∧ (a.1 = false ∧ 0 = 0 ∧ a.3 = x2 ∧ x4.1
= 0) ∧ ((x4.1 = 0 ∧ x3 = []) ∧ FlatL x4.2 ∧ x4.2 = x3) ∧ True) ∧ (¬0 ≤ 0 → Few 0 4 ∧ 0 ≤ 0 ∧ ∀ (x6 : Nat) (x7 : List Value), x6 = 0 → x7 = lwin [] 0 0 ++ [] → ∃ (x8 : RW), (∀ (x9 :
List Int), Sli (Value.int IntKind.i32) 1 a.1 a.2 a.3 a.4 a.5 x9 → Sli (Value.int IntKind.i32) 1 a.1 0 a.3 x8.1 x8.2 x9) ∧ (a.1 = false ∧ 0 = 0 ∧ a.3 = x6 ∧ x8.1 = x6) ∧ (x8.1 = x6
∧ FlatL x8.2 ∧ x8.2 = x7) ∧ True)) ∧ (a.1 = false → a.2 + a.3 * 1 ≤ List.length a.5 ∧ ∀ (x10 : List Value), x10 = lwin a.5 a.2 (a.3 * 1) → (0 + a.3 ≤ 0 → true = true ∧ lall oneK
x10 = true ∧ 0 + List.length x10 ≤ 0 ∧ ∀ (x11 : Nat) (x12 : List Value), x11 = 0 + a.3 → x12 = lput [] 0 x10 → ∃ (x13 : RW), (∀ (x14 : List Int), Sli (Value.int IntKind.i32) 1 a.1
a.2 a.3 a.4 a.5 x14 → Sli (Value.int IntKind.i32) 1 a.1 0 a.3 x13.1 x13.2 x14) ∧ (a.1 = false ∧ 0 = 0 ∧ a.3 = x11 ∧ x13.1 = 0) ∧ ((x13.1 = 0 ∧ x12 = []) ∧ FlatL x13.2 ∧ x13.2 =
x12) ∧ True) ∧ (¬0 + a.3 ≤ 0 → Few (0 + a.3) 4 ∧ 0 ≤ 0 ∧ ∀ (x15 : Nat) (x16 : List Value), x15 = 0 + a.3 → x16 = lwin [] 0 0 ++ x10 → ∃ (x17 : RW), (∀ (x18 : List Int), Sli
(Value.int IntKind.i32) 1 a.1 a.2 a.3 a.4 a.5 x18 → Sli (Value.int IntKind.i32) 1 a.1 0 a.3 x17.1 x17.2 x18) ∧ (a.1 = false ∧ 0 = 0 ∧ a.3 = x15 ∧ x17.1 = x15) ∧ (x17.1 = x15 ∧
FlatL x17.2 ∧ x17.2 = x16) ∧ True)))) := by kernel_rfl
theorem vc_clbool (a : SA) : G_clbool a = ((a.1 = true → ∃ (x0 : RW), (∀ (x1 : List Bool), Sli Value.bool 1 a.1 a.2 a.3 a.4 a.5 x1 → Sli Value.bool 1 a.1 0 a.3 x0.1 x0.2 x1) ∧ (a.1 = true ∧ a.3 = 0 ∧ x0.1 = 0) ∧ (FlatL
x0.2 ∧ True) ∧ True) ∧ (a.1 = false → (a.1 = true → (0 ≤ 0 → true = true ∧ true = true ∧ 0 ≤ 0 ∧ ∀ (x2 : Nat) (x3 : List Value), x2 = 0 → x3 = lput [] 0 [] → ∃ (x4 : RW), (∀ (x5 :
List Bool), Sli Value.bool 1 a.1 a.2 a.3 a.4 a.5 x5 → Sli Value.bool 1 a.1 0 a.3 x4.1 x4.2 x5) ∧ (a.1 = false ∧ 0 = 0 ∧ a.3 = x2 ∧ x4.1 = 0) ∧ ((x4.1 = 0 ∧ x3 = []) ∧ FlatL x4.2 ∧
x4.2 = x3) ∧ True) ∧ (¬0 ≤ 0 → Few 0 1 ∧ 0 ≤ 0 ∧ ∀ (x6 : Nat) (x7 : List Value), x6 = 0 → x7 = lwin [] 0 0 ++ [] → ∃ (x8 : RW), (∀ (x9 : List Bool), Sli Value.bool 1 a.1 a.2 a.3
a.4 a.5 x9 → Sli Value.bool 1 a.1 0 a.3 x8.1 x8.2 x9) ∧ (a.1 = false ∧ 0 = 0 ∧ a.3 = x6 ∧ x8.1 = x6) ∧ (x8.1 = x6 ∧ FlatL x8.2 ∧ x8.2 = x7) ∧ True)) ∧ (a.1 = false → a.2 + a.3 * 1
≤ List.length a.5 ∧ ∀ (x10 : List Value), x10 = lwin a.5 a.2 (a.3 * 1) → (0 + a.3 ≤ 0 → true = true ∧ lall oneK x10 = true ∧ 0 + List.length x10 ≤ 0 ∧ ∀ (x11 : Nat) (x12 : List
Value), x11 = 0 + a.3 → x12 = lput [] 0 x10 → ∃ (x13 : RW), (∀ (x14 : List Bool), Sli Value.bool 1 a.1 a.2 a.3 a.4 a.5 x14 → Sli Value.bool 1 a.1 0 a.3 x13.1 x13.2 x14) ∧ (a.1 =
false ∧ 0 = 0 ∧ a.3 = x11 ∧ x13.1 = 0) ∧ ((x13.1 = 0 ∧ x12 = []) ∧ FlatL x13.2 ∧ x13.2 = x12) ∧ True) ∧ (¬0 + a.3 ≤ 0 → Few (0 + a.3) 1 ∧ 0 ≤ 0 ∧ ∀ (x15 : Nat) (x16 : List Value),
x15 = 0 + a.3 → x16 = lwin [] 0 0 ++ x10 → ∃ (x17 : RW), (∀ (x18 : List Bool), Sli Value.bool 1 a.1 a.2 a.3 a.4 a.5 x18 → Sli Value.bool 1 a.1 0 a.3 x17.1 x17.2 x18) ∧ (a.1 = false
∧ 0 = 0 ∧ a.3 = x15 ∧ x17.1 = x15) ∧ (x17.1 = x15 ∧ FlatL x17.2 ∧ x17.2 = x16) ∧ True)))) := by kernel_rfl
theorem vc_cldig (a : SA) : G_cldig a = ((a.1 = true → ∃ (x0 : RW), (∀ (x1 : List Int), Sli (Value.int IntKind.u8) 8 a.1 a.2 a.3 a.4 a.5 x1 → Sli (Value.int IntKind.u8) 8 a.1 0 a.3 x0.1 x0.2 x1) ∧ (a.1 = true ∧ a.3 = 0 ∧
x0.1 = 0) ∧ (FlatL x0.2 ∧ True) ∧ True) ∧ (a.1 = false → (a.1 = true → (0 ≤ 0 → true = true ∧ true = true ∧ 0 ≤ 0 ∧ ∀ (x2 : Nat) (x3 : List Value), x2 = 0 → x3 = lput [] 0 [] → ∃
(x4 : RW), (∀ (x5 : List Int), Sli (Value.int IntKind.u8) 8 a.1 a.2 a.3 a.4 a.5 x5 → Sli (Value.int IntKind.u8) 8 a.1 0 a.3 x4.1 x4.2 x5) ∧ (a.1 = false ∧ 0 = 0 ∧ a.3 = x2 ∧ x4.1 =
0) ∧ ((x4.1 = 0 ∧ x3 = []) ∧ FlatL x4.2 ∧ x4.2 = x3) ∧ True) ∧ (¬0 ≤ 0 → Few 0 8 ∧ 0 ≤ 0 ∧ ∀ (x6 : Nat) (x7 : List Value), x6 = 0 → x7 = lwin [] 0 0 ++ [] → ∃ (x8 : RW), (∀ (x9 :
List Int), Sli (Value.int IntKind.u8) 8 a.1 a.2 a.3 a.4 a.5 x9 → Sli (Value.int IntKind.u8) 8 a.1 0 a.3 x8.1 x8.2 x9) ∧ (a.1 = false ∧ 0 = 0 ∧ a.3 = x6 ∧ x8.1 = x6) ∧ (x8.1 = x6 ∧
FlatL x8.2 ∧ x8.2 = x7) ∧ True)) ∧ (a.1 = false → a.2 + a.3 * 8 ≤ List.length a.5 ∧ ∀ (x10 : List Value), x10 = lwin a.5 a.2 (a.3 * 8) → (0 + a.3 ≤ 0 → true = true ∧ lall oneK x10
= true ∧ 0 + List.length x10 ≤ 0 ∧ ∀ (x11 : Nat) (x12 : List Value), x11 = 0 + a.3 → x12 = lput [] 0 x10 → ∃ (x13 : RW), (∀ (x14 : List Int), Sli (Value.int IntKind.u8) 8 a.1 a.2
a.3 a.4 a.5 x14 → Sli (Value.int IntKind.u8) 8 a.1 0 a.3 x13.1 x13.2 x14) ∧ (a.1 = false ∧ 0 = 0 ∧ a.3 = x11 ∧ x13.1 = 0) ∧ ((x13.1 = 0 ∧ x12 = []) ∧ FlatL x13.2 ∧ x13.2 = x12) ∧
True) ∧ (¬0 + a.3 ≤ 0 → Few (0 + a.3) 8 ∧ 0 ≤ 0 ∧ ∀ (x15 : Nat) (x16 : List Value), x15 = 0 + a.3 → x16 = lwin [] 0 0 ++ x10 → ∃ (x17 : RW), (∀ (x18 : List Int), Sli (Value.int
IntKind.u8) 8 a.1 a.2 a.3 a.4 a.5 x18 → Sli (Value.int IntKind.u8) 8 a.1 0 a.3 x17.1 x17.2 x18) ∧ (a.1 = false ∧ 0 = 0 ∧ a.3 = x15 ∧ x17.1 = x15) ∧ (x17.1 = x15 ∧ FlatL x17.2 ∧
x17.2 = x16) ∧ True)))) := by kernel_rfl
set_option maxHeartbeats 3200000 in
theorem vc_cut (a : PA) : G_cut a = (∀ (x0 : Int), x0 = (↑a.1.3 : Int) → ∀ (x1 : Int), x1 = Min.min x0 (70 : Int) → (a.1.1 = true → ((0 : Int) = 0 ∧ x1 = (0 : Int)) ∧ ∀ (x2 : Int), x2 = (↑a.2.3 : Int) → ∀ (x3 : Int),
x3 = Min.min x2 (10 : Int) → (a.2.1 = true → ((0 : Int) = 0 ∧ x3 = (0 : Int)) ∧ ∀ (x4 : Int), x4 = (↑a.3.3 : Int) → ∀ (x5 : Int), x5 = Min.min x4 (10 : Int) → (a.3.1 = true → ((0 :
Int) = 0 ∧ x5 = (0 : Int)) ∧ (True ∧ True ∧ True ∧ True ∧ True ∧ True ∧ True ∧ True ∧ True ∧ True ∧ True ∧ (W_G_cut_0 a = W_G_cut_0 a ∧ True) ∧ (True ∧ True) ∧ (W_G_cut_0 a =
W_G_cut_0 a ∧ True) ∧ True ∧ True ∧ True ∧ True ∧ (W_G_cut_1 a = W_G_cut_1 a ∧ W_G_cut_1 a = W_G_cut_1 a ∧ True) ∧ (True ∧ True ∧ True) ∧ (W_G_cut_1 a = W_G_cut_1 a ∧ W_G_cut_1 a =
W_G_cut_1 a ∧ True) ∧ True ∧ True ∧ True ∧ True ∧ True ∧ True ∧ True) ∧ ∃ (x6 : Unit), True ∧ ((a.1.1 = true ∧ Min.min a.1.3 70 = 0 ∧ a.1.4 = 0) ∧ (a.2.1 = true ∧ Min.min a.2.3 10
= 0 ∧ a.2.4 = 0) ∧ (a.3.1 = true ∧ Min.min a.3.3 10 = 0 ∧ a.3.4 = 0) ∧ ZR a) ∧ True) ∧ (a.3.1 = false → (((0 : Int) ≤ (0 : Int) ∧ (0 : Int) ≤ x5 ∧ x5 ≤ (↑a.3.4 : Int)) ∧ (true =
true → x5 ≤ (↑a.3.3 : Int) ∧ ((0 : Int) = 0 ∨ (0 : Int) < (↑a.3.4 : Int)))) ∧ ∀ (x7 x8 x9 : Nat), (x7 = if SA.k (PA.s3 a) = Int.toNat (0 : Int) then a.3.2 else a.3.2 + 0) → x8 =
Int.toNat x5 - 0 → x9 = a.3.4 - 0 → (True ∧ True ∧ True ∧ True ∧ True ∧ True ∧ True ∧ True ∧ True ∧ True ∧ True ∧ (W_G_cut_0 a = W_G_cut_0 a ∧ True) ∧ (True ∧ True) ∧ (W_G_cut_0 a
= W_G_cut_0 a ∧ True) ∧ True ∧ True ∧ True ∧ True ∧ (W_G_cut_1 a = W_G_cut_1 a ∧ W_G_cut_1 a = W_G_cut_1 a ∧ True) ∧ (True ∧ True ∧ True) ∧ (W_G_cut_1 a = W_G_cut_1 a ∧ W_G_cut_1 a
= W_G_cut_1 a ∧ True) ∧ True ∧ True ∧ True ∧ True ∧ True ∧ True ∧ True) ∧ ∃ (x10 : Unit), True ∧ ((a.1.1 = true ∧ Min.min a.1.3 70 = 0 ∧ a.1.4 = 0) ∧ (a.2.1 = true ∧ Min.min a.2.3
10 = 0 ∧ a.2.4 = 0) ∧ (a.3.1 = false ∧ a.3.2 = x7 ∧ Min.min a.3.3 10 = x8 ∧ a.3.4 = x9) ∧ ZR a) ∧ True)) ∧ (a.2.1 = false → (((0 : Int) ≤ (0 : Int) ∧ (0 : Int) ≤ x3 ∧ x3 ≤ (↑a.2.4
: Int)) ∧ (true = true → x3 ≤ (↑a.2.3 : Int) ∧ ((0 : Int) = 0 ∨ (0 : Int) < (↑a.2.4 : Int)))) ∧ ∀ (x11 x12 x13 : Nat), (x11 = if SA.k (PA.s2 a) = Int.toNat (0 : Int) then a.2.2
else a.2.2 + 0) → x12 = Int.toNat x3 - 0 → x13 = a.2.4 - 0 → ∀ (x14 : Int), x14 = (↑a.3.3 : Int) → ∀ (x15 : Int), x15 = Min.min x14 (10 : Int) → (a.3.1 = true → ((0 : Int) = 0 ∧
x15 = (0 : Int)) ∧ (True ∧ True ∧ True ∧ True ∧ True ∧ True ∧ True ∧ True ∧ True ∧ True ∧ True ∧ (W_G_cut_0 a = W_G_cut_0 a ∧ True) ∧ (True ∧ True) ∧ (W_G_cut_0 a = W_G_cut_0 a ∧
True) ∧ True ∧ True ∧ True ∧ True ∧ (W_G_cut_1 a = W_G_cut_1 a ∧ W_G_cut_1 a = W_G_cut_1 a ∧ True) ∧ (True ∧ True ∧ True) ∧ (W_G_cut_1 a = W_G_cut_1 a ∧ W_G_cut_1 a = W_G_cut_1 a ∧
True) ∧ True ∧ True ∧ True ∧ True ∧ True ∧ True ∧ True) ∧ ∃ (x16 : Unit), True ∧ ((a.1.1 = true ∧ Min.min a.1.3 70 = 0 ∧ a.1.4 = 0) ∧ (a.2.1 = false ∧ a.2.2 = x11 ∧ Min.min a.2.3
10 = x12 ∧ a.2.4 = x13) ∧ (a.3.1 = true ∧ Min.min a.3.3 10 = 0 ∧ a.3.4 = 0) ∧ ZR a) ∧ True) ∧ (a.3.1 = false → (((0 : Int) ≤ (0 : Int) ∧ (0 : Int) ≤ x15 ∧ x15 ≤ (↑a.3.4 : Int)) ∧
(true = true → x15 ≤ (↑a.3.3 : Int) ∧ ((0 : Int) = 0 ∨ (0 : Int) < (↑a.3.4 : Int)))) ∧ ∀ (x17 x18 x19 : Nat), (x17 = if SA.k (PA.s3 a) = Int.toNat (0 : Int) then a.3.2 else a.3.2 +
0) → x18 = Int.toNat x15 - 0 → x19 = a.3.4 - 0 → (True ∧ True ∧ True ∧ True ∧ True ∧ True ∧ True ∧ True ∧ True ∧ True ∧ True ∧ (W_G_cut_0 a = W_G_cut_0 a ∧ True) ∧ (True ∧ True) ∧
(W_G_cut_0 a = W_G_cut_0 a ∧ True) ∧ True ∧ True ∧ True ∧ True ∧ (W_G_cut_1 a = W_G_cut_1 a ∧ W_G_cut_1 a = W_G_cut_1 a ∧ True) ∧ (True ∧ True ∧ True) ∧ (W_G_cut_1 a = W_G_cut_1 a
∧ W_G_cut_1 a = W_G_cut_1 a ∧ True) ∧ True ∧ True ∧ True ∧ True ∧ True ∧ True ∧ True) ∧ ∃ (x20 : Unit), True ∧ ((a.1.1 = true ∧ Min.min a.1.3 70 = 0 ∧ a.1.4 = 0) ∧ (a.2.1 = false ∧
a.2.2 = x11 ∧ Min.min a.2.3 10 = x12 ∧ a.2.4 = x13) ∧ (a.3.1 = false ∧ a.3.2 = x17 ∧ Min.min a.3.3 10 = x18 ∧ a.3.4 = x19) ∧ ZR a) ∧ True))) ∧ (a.1.1 = false → (((0 : Int) ≤ (0 :
Int) ∧ (0 : Int) ≤ x1 ∧ x1 ≤ (↑a.1.4 : Int)) ∧ (true = true → x1 ≤ (↑a.1.3 : Int) ∧ ((0 : Int) = 0 ∨ (0 : Int) < (↑a.1.4 : Int)))) ∧ ∀ (x21 x22 x23 : Nat), (x21 = if SA.k (PA.s1 a)
= Int.toNat (0 : Int) then a.1.2 else a.1.2 + 0) → x22 = Int.toNat x1 - 0 → x23 = a.1.4 - 0 → ∀ (x24 : Int), x24 = (↑a.2.3 : Int) → ∀ (x25 : Int), x25 = Min.min x24 (10 : Int) →
(a.2.1 = true → ((0 : Int) = 0 ∧ x25 = (0 : Int)) ∧ ∀ (x26 : Int), x26 = (↑a.3.3 : Int) → ∀ (x27 : Int), x27 = Min.min x26 (10 : Int) → (a.3.1 = true → ((0 : Int) = 0 ∧ x27 = (0 :
Int)) ∧ (True ∧ True ∧ True ∧ True ∧ True ∧ True ∧ True ∧ True ∧ True ∧ True ∧ True ∧ (W_G_cut_0 a = W_G_cut_0 a ∧ True) ∧ (True ∧ True) ∧ (W_G_cut_0 a = W_G_cut_0 a ∧ True) ∧ True
∧ True ∧ True ∧ True ∧ (W_G_cut_1 a = W_G_cut_1 a ∧ W_G_cut_1 a = W_G_cut_1 a ∧ True) ∧ (True ∧ True ∧ True) ∧ (W_G_cut_1 a = W_G_cut_1 a ∧ W_G_cut_1 a = W_G_cut_1 a ∧ True) ∧ True
∧ True ∧ True ∧ True ∧ True ∧ True ∧ True) ∧ ∃ (x28 : Unit), True ∧ ((a.1.1 = false ∧ a.1.2 = x21 ∧ Min.min a.1.3 70 = x22 ∧ a.1.4 = x23) ∧ (a.2.1 = true ∧ Min.min a.2.3 10 = 0 ∧
a.2.4 = 0) ∧ (a.3.1 = true ∧ Min.min a.3.3 10 = 0 ∧ a.3.4 = 0) ∧ ZR a) ∧ True) ∧ (a.3.1 = false → (((0 : Int) ≤ (0 : Int) ∧ (0 : Int) ≤ x27 ∧ x27 ≤ (↑a.3.4 : Int)) ∧ (true = true →
x27 ≤ (↑a.3.3 : Int) ∧ ((0 : Int) = 0 ∨ (0 : Int) < (↑a.3.4 : Int)))) ∧ ∀ (x29 x30 x31 : Nat), (x29 = if SA.k (PA.s3 a) = Int.toNat (0 : Int) then a.3.2 else a.3.2 + 0) → x30 =
Int.toNat x27 - 0 → x31 = a.3.4 - 0 → (True ∧ True ∧ True ∧ True ∧ True ∧ True ∧ True ∧ True ∧ True ∧ True ∧ True ∧ (W_G_cut_0 a = W_G_cut_0 a ∧ True) ∧ (True ∧ True) ∧ (W_G_cut_0
a = W_G_cut_0 a ∧ True) ∧ True ∧ True ∧ True ∧ True ∧ (W_G_cut_1 a = W_G_cut_1 a ∧ W_G_cut_1 a = W_G_cut_1 a ∧ True) ∧ (True ∧ True ∧ True) ∧ (W_G_cut_1 a = W_G_cut_1 a ∧ W_G_cut_1
a = W_G_cut_1 a ∧ True) ∧ True ∧ True ∧ True ∧ True ∧ True ∧ True ∧ True) ∧ ∃ (x32 : Unit), True ∧ ((a.1.1 = false ∧ a.1.2 = x21 ∧ Min.min a.1.3 70 = x22 ∧ a.1.4 = x23) ∧ (a.2.1 =
true ∧ Min.min a.2.3 10 = 0 ∧ a.2.4 = 0) ∧ (a.3.1 = false ∧ a.3.2 = x29 ∧ Min.min a.3.3 10 = x30 ∧ a.3.4 = x31) ∧ ZR a) ∧ True)) ∧ (a.2.1 = false → (((0 : Int) ≤ (0 : Int) ∧ (0 :
Int) ≤ x25 ∧ x25 ≤ (↑a.2.4 : Int)) ∧ (true = true → x25 ≤ (↑a.2.3 : Int) ∧ ((0 : Int) = 0 ∨ (0 : Int) < (↑a.2.4 : Int)))) ∧ ∀ (x33 x34 x35 : Nat), (x33 = if SA.k (PA.s2 a) =
Int.toNat (0 : Int) then a.2.2 else a.2.2 + 0) → x34 = Int.toNat x25 - 0 → x35 = a.2.4 - 0 → ∀ (x36 : Int), x36 = (↑a.3.3 : Int) → ∀ (x37 : Int), x37 = Min.min x36 (10 : Int) →
(a.3.1 = true → ((0 : Int) = 0 ∧ x37 = (0 : Int)) ∧ (True ∧ True ∧ True ∧ True ∧ True ∧ True ∧ True ∧ True ∧ True ∧ True ∧ True ∧ (W_G_cut_0 a = W_G_cut_0 a ∧ True) ∧ (True ∧ True)
∧ (W_G_cut_0 a = W_G_cut_0 a ∧ True) ∧ True ∧ True ∧ True ∧ True ∧ (W_G_cut_1 a = W_G_cut_1 a ∧ W_G_cut_1 a = W_G_cut_1 a ∧ True) ∧ (True ∧ True ∧ True) ∧ (W_G_cut_1 a = W_G_cut_1
a ∧ W_G_cut_1 a = W_G_cut_1 a ∧ True) ∧ True ∧ True ∧ True ∧ True ∧ True ∧ True ∧ True) ∧ ∃ (x38 : Unit), True ∧ ((a.1.1 = false ∧ a.1.2 = x21 ∧ Min.min a.1.3 70 = x22 ∧ a.1.4 =
x23) ∧ (a.2.1 = false ∧ a.2.2 = x33 ∧ Min.min a.2.3 10 = x34 ∧ a.2.4 = x35) ∧ (a.3.1 = true ∧ Min.min a.3.3 10 = 0 ∧ a.3.4 = 0) ∧ ZR a) ∧ True) ∧ (a.3.1 = false → (((0 : Int) ≤ (0
: Int) ∧ (0 : Int) ≤ x37 ∧ x37 ≤ (↑a.3.4 : Int)) ∧ (true = true → x37 ≤ (↑a.3.3 : Int) ∧ ((0 : Int) = 0 ∨ (0 : Int) < (↑a.3.4 : Int)))) ∧ ∀ (x39 x40 x41 : Nat), (x39 = if SA.k
(PA.s3 a) = Int.toNat (0 : Int) then a.3.2 else a.3.2 + 0) → x40 = Int.toNat x37 - 0 → x41 = a.3.4 - 0 → (True ∧ True ∧ True ∧ True ∧ True ∧ True ∧ True ∧ True ∧ True ∧ True ∧ True
∧ (W_G_cut_0 a = W_G_cut_0 a ∧ True) ∧ (True ∧ True) ∧ (W_G_cut_0 a = W_G_cut_0 a ∧ True) ∧ True ∧ True ∧ True ∧ True ∧ (W_G_cut_1 a = W_G_cut_1 a ∧ W_G_cut_1 a = W_G_cut_1 a ∧
True) ∧ (True ∧ True ∧ True) ∧ (W_G_cut_1 a = W_G_cut_1 a ∧ W_G_cut_1 a = W_G_cut_1 a ∧ True) ∧ True ∧ True ∧ True ∧ True ∧ True ∧ True ∧ True) ∧ ∃ (x42 : Unit), True ∧ ((a.1.1 =
false ∧ a.1.2 = x21 ∧ Min.min a.1.3 70 = x22 ∧ a.1.4 = x23) ∧ (a.2.1 = false ∧ a.2.2 = x33 ∧ Min.min a.2.3 10 = x34 ∧ a.2.4 = x35) ∧ (a.3.1 = false ∧ a.3.2 = x39 ∧ Min.min a.3.3 10
= x40 ∧ a.3.4 = x41) ∧ ZR a) ∧ True)))) := by kernel_rfl
theorem vc_clone (a : PA) : G_clone a = ((True ∧ (∃ (x0 : List Int), Sli (Value.int IntKind.i32) 1 a.1.1 a.1.2 a.1.3 a.1.4 a.1.5 x0) ∧ a.1.3 ≤ 100) ∧ ((Z4 a.1 ∧ True) ∧ ZF a.1.5 ∧ True) ∧ (∀ (x1 : RW), (∀ (x2 : List
Int), Sli (Value.int IntKind.i32) 1 a.1.1 a.1.2 a.1.3 a.1.4 a.1.5 x2 → Sli (Value.int IntKind.i32) 1 a.1.1 0 a.1.3 x1.1 x1.2 x2) → (True ∧ (∃ (x3 : List Bool), Sli Value.bool 1
a.2.1 a.2.2 a.2.3 a.2.4 a.2.5 x3) ∧ a.2.3 ≤ 100) ∧ ((Z4 a.2 ∧ True) ∧ ZF a.2.5 ∧ True) ∧ (∀ (x4 : RW), (∀ (x5 : List Bool), Sli Value.bool 1 a.2.1 a.2.2 a.2.3 a.2.4 a.2.5 x5 → Sli
Value.bool 1 a.2.1 0 a.2.3 x4.1 x4.2 x5) → (True ∧ (∃ (x6 : List Int), Sli (Value.int IntKind.u8) 8 a.3.1 a.3.2 a.3.3 a.3.4 a.3.5 x6) ∧ a.3.3 ≤ 100) ∧ ((Z4 a.3 ∧ True) ∧ ZF a.3.5 ∧
True) ∧ (∀ (x7 : RW), (∀ (x8 : List Int), Sli (Value.int IntKind.u8) 8 a.3.1 a.3.2 a.3.3 a.3.4 a.3.5 x8 → Sli (Value.int IntKind.u8) 8 a.3.1 0 a.3.3 x7.1 x7.2 x8) → (True ∧ True ∧
True ∧ (True ∧ True) ∧ (W_G_clone_0 a = W_G_clone_0 a ∧ True) ∧ True ∧ (True ∧ True ∧ True) ∧ (W_G_clone_0 a = W_G_clone_0 a ∧ W_G_clone_0 a = W_G_clone_0 a ∧ True) ∧ True ∧ (True
∧ True ∧ True ∧ True) ∧ (W_G_clone_0 a = W_G_clone_0 a ∧ W_G_clone_0 a = W_G_clone_0 a ∧ W_G_clone_0 a = W_G_clone_0 a ∧ True) ∧ True ∧ True ∧ True) ∧ ∃ (x9 : PB), (∀ (x10 : PX),
PH a x10 → PH (PA.mk (SA.mk a.1.1 0 a.1.3 x9.1.1 x9.1.2) (SA.mk a.2.1 0 a.2.3 x9.2.1 x9.2.2) (SA.mk a.3.1 0 a.3.3 x9.3.1 x9.3.2) a.4 a.5 a.6 a.7 a.8) x10) ∧ ((a.1.1 = a.1.1 ∧ 0 = 0
∧ a.1.3 = a.1.3 ∧ x9.1.1 = x1.1) ∧ (a.2.1 = a.2.1 ∧ 0 = 0 ∧ a.2.3 = a.2.3 ∧ x9.2.1 = x4.1) ∧ (a.3.1 = a.3.1 ∧ 0 = 0 ∧ a.3.3 = a.3.3 ∧ x9.3.1 = x7.1) ∧ ZR a) ∧ (x9.1.1 = x1.1 ∧
FlatL x9.1.2 ∧ x9.1.2 = x1.2) ∧ (x9.2.1 = x4.1 ∧ FlatL x9.2.2 ∧ x9.2.2 = x4.2) ∧ (x9.3.1 = x7.1 ∧ FlatL x9.3.2 ∧ x9.3.2 = x7.2) ∧ True) ∧ True) ∧ True) ∧ True) := by kernel_rfl
theorem g_cli32 (a : SA) (hp : ∃ xs, Sli (Value.int .i32) 1 a.n a.o a.l a.k a.c xs) (hl : a.l ≤ 100) : G_cli32 a := by
  obtain ⟨ys, hy⟩ := hp
  have uniq : a.n = true → a.l = 0 ∧ ∀ zs, Sli (Value.int .i32) 1 a.n a.o a.l a.k a.c zs → Sli (Value.int .i32) 1 true 0 a.l 0 [] zs := fun hn => ⟨(hy.nil hn).1, fun zs hz => by
    have hz0 := hz.nilE hn
    subst hz0
    rw [(hy.nil hn).1]; exact .none⟩
  rw [vc_cli32]
  refine ⟨fun hn => ⟨⟨0, []⟩, fun xs hx => by (rw [hn]; exact (uniq hn).2 xs hx), ⟨hn, (uniq hn).1, rfl⟩, ⟨flatL_nil, trivial⟩, trivial⟩, fun hn => ⟨fun hc => absurd (hc.symm.trans hn) (by decide), fun _ => ⟨by have := hy.fit hn; omega, fun xs hxs => ?_⟩⟩⟩
  have hw : HW (Value.int .i32) xs ys := by rw [hxs]; exact hy.win hn
  have hlen : ys.length = a.l * 1 := hy.len
  have hxl : xs.length = a.l * 1 := hw.len.trans hlen
  have fin : ∀ (c : List Value) (k : Nat), c = xs → a.l ≤ k → ∀ zs, Sli (Value.int .i32) 1 a.n a.o a.l a.k a.c zs → Sli (Value.int .i32) 1 a.n 0 a.l k c zs := fun c k hc hk zs hz => by
    subst hc
    rw [hn]
    have hw2 : HW (Value.int .i32) c zs := by rw [hxs]; exact hz.win hn
    exact .row hw2 hz.len hk hw2.flat
  refine ⟨fun h0 => ⟨rfl, hw.oneK, by omega, fun n c hn' hc => ?_⟩, fun h0 => ⟨by unfold Few; omega, by omega, fun n c hn' hc => ?_⟩⟩
  · have hx0 : xs = [] := List.eq_nil_of_length_eq_zero (by omega)
    have hc0 : c = [] := by rw [hc, hx0]; rfl
    exact ⟨⟨0, c⟩, fin c 0 (by rw [hc0, hx0]) (by omega), ⟨hn, rfl, by omega, rfl⟩, ⟨⟨rfl, hc0⟩, by rw [hc0]; exact flatL_nil, rfl⟩, trivial⟩
  · have hcx : c = xs := by rw [hc]; rfl
    exact ⟨⟨n, c⟩, fin c n hcx (by omega), ⟨hn, rfl, by omega, rfl⟩, ⟨rfl, by rw [hcx]; exact hw.flat, rfl⟩, trivial⟩
theorem s_cli32 : SpecOK Tryz.prog S_cli32.spec := fun a => specD_at (an := []) envOK cw0_ok fun hp => g_cli32 a hp.1 hp.2
theorem g_clbool (a : SA) (hp : ∃ xs, Sli (Value.bool) 1 a.n a.o a.l a.k a.c xs) (hl : a.l ≤ 100) : G_clbool a := by
  obtain ⟨ys, hy⟩ := hp
  have uniq : a.n = true → a.l = 0 ∧ ∀ zs, Sli (Value.bool) 1 a.n a.o a.l a.k a.c zs → Sli (Value.bool) 1 true 0 a.l 0 [] zs := fun hn => ⟨(hy.nil hn).1, fun zs hz => by
    have hz0 := hz.nilE hn
    subst hz0
    rw [(hy.nil hn).1]; exact .none⟩
  rw [vc_clbool]
  refine ⟨fun hn => ⟨⟨0, []⟩, fun xs hx => by (rw [hn]; exact (uniq hn).2 xs hx), ⟨hn, (uniq hn).1, rfl⟩, ⟨flatL_nil, trivial⟩, trivial⟩, fun hn => ⟨fun hc => absurd (hc.symm.trans hn) (by decide), fun _ => ⟨by have := hy.fit hn; omega, fun xs hxs => ?_⟩⟩⟩
  have hw : HW (Value.bool) xs ys := by rw [hxs]; exact hy.win hn
  have hlen : ys.length = a.l * 1 := hy.len
  have hxl : xs.length = a.l * 1 := hw.len.trans hlen
  have fin : ∀ (c : List Value) (k : Nat), c = xs → a.l ≤ k → ∀ zs, Sli (Value.bool) 1 a.n a.o a.l a.k a.c zs → Sli (Value.bool) 1 a.n 0 a.l k c zs := fun c k hc hk zs hz => by
    subst hc
    rw [hn]
    have hw2 : HW (Value.bool) c zs := by rw [hxs]; exact hz.win hn
    exact .row hw2 hz.len hk hw2.flatB
  refine ⟨fun h0 => ⟨rfl, hw.oneB, by omega, fun n c hn' hc => ?_⟩, fun h0 => ⟨by unfold Few; omega, by omega, fun n c hn' hc => ?_⟩⟩
  · have hx0 : xs = [] := List.eq_nil_of_length_eq_zero (by omega)
    have hc0 : c = [] := by rw [hc, hx0]; rfl
    exact ⟨⟨0, c⟩, fin c 0 (by rw [hc0, hx0]) (by omega), ⟨hn, rfl, by omega, rfl⟩, ⟨⟨rfl, hc0⟩, by rw [hc0]; exact flatL_nil, rfl⟩, trivial⟩
  · have hcx : c = xs := by rw [hc]; rfl
    exact ⟨⟨n, c⟩, fin c n hcx (by omega), ⟨hn, rfl, by omega, rfl⟩, ⟨rfl, by rw [hcx]; exact hw.flatB, rfl⟩, trivial⟩
theorem s_clbool : SpecOK Tryz.prog S_clbool.spec := fun a => specD_at (an := []) envOK cw0_ok fun hp => g_clbool a hp.1 hp.2
theorem g_cldig (a : SA) (hp : ∃ xs, Sli (Value.int .u8) 8 a.n a.o a.l a.k a.c xs) (hl : a.l ≤ 100) : G_cldig a := by
  obtain ⟨ys, hy⟩ := hp
  have uniq : a.n = true → a.l = 0 ∧ ∀ zs, Sli (Value.int .u8) 8 a.n a.o a.l a.k a.c zs → Sli (Value.int .u8) 8 true 0 a.l 0 [] zs := fun hn => ⟨(hy.nil hn).1, fun zs hz => by
    have hz0 := hz.nilE hn
    subst hz0
    rw [(hy.nil hn).1]; exact .none⟩
  rw [vc_cldig]
  refine ⟨fun hn => ⟨⟨0, []⟩, fun xs hx => by (rw [hn]; exact (uniq hn).2 xs hx), ⟨hn, (uniq hn).1, rfl⟩, ⟨flatL_nil, trivial⟩, trivial⟩, fun hn => ⟨fun hc => absurd (hc.symm.trans hn) (by decide), fun _ => ⟨by have := hy.fit hn; omega, fun xs hxs => ?_⟩⟩⟩
  have hw : HW (Value.int .u8) xs ys := by rw [hxs]; exact hy.win hn
  have hlen : ys.length = a.l * 8 := hy.len
  have hxl : xs.length = a.l * 8 := hw.len.trans hlen
  have fin : ∀ (c : List Value) (k : Nat), c = xs → a.l ≤ k → ∀ zs, Sli (Value.int .u8) 8 a.n a.o a.l a.k a.c zs → Sli (Value.int .u8) 8 a.n 0 a.l k c zs := fun c k hc hk zs hz => by
    subst hc
    rw [hn]
    have hw2 : HW (Value.int .u8) c zs := by rw [hxs]; exact hz.win hn
    exact .row hw2 hz.len hk hw2.flat
  refine ⟨fun h0 => ⟨rfl, hw.oneK, by omega, fun n c hn' hc => ?_⟩, fun h0 => ⟨by unfold Few; omega, by omega, fun n c hn' hc => ?_⟩⟩
  · have hx0 : xs = [] := List.eq_nil_of_length_eq_zero (by omega)
    have hc0 : c = [] := by rw [hc, hx0]; rfl
    exact ⟨⟨0, c⟩, fin c 0 (by rw [hc0, hx0]) (by omega), ⟨hn, rfl, by omega, rfl⟩, ⟨⟨rfl, hc0⟩, by rw [hc0]; exact flatL_nil, rfl⟩, trivial⟩
  · have hcx : c = xs := by rw [hc]; rfl
    exact ⟨⟨n, c⟩, fin c n hcx (by omega), ⟨hn, rfl, by omega, rfl⟩, ⟨rfl, by rw [hcx]; exact hw.flat, rfl⟩, trivial⟩
theorem s_cldig : SpecOK Tryz.prog S_cldig.spec := fun a => specD_at (an := []) envOK cw0_ok fun hp => g_cldig a hp.1 hp.2
theorem g_clone (a : PA) (hp : ∃ x, PH a x) (h1 : a.s1.l ≤ 100) (h2 : a.s2.l ≤ 100) (h3 : a.s3.l ≤ 100) : G_clone a := by
  obtain ⟨x, hx⟩ := hp
  rw [vc_clone]
  refine ⟨⟨trivial, ⟨_, hx.p1⟩, h1⟩, ⟨⟨⟨rfl, rfl, rfl, rfl⟩, trivial⟩, ⟨trivial, hx.p1.flat, rfl⟩, trivial⟩, fun b1 q1 => ⟨⟨trivial, ⟨_, hx.p2⟩, h2⟩, ⟨⟨⟨rfl, rfl, rfl, rfl⟩, trivial⟩, ⟨trivial, hx.p2.flat, rfl⟩, trivial⟩, fun b2 q2 => ⟨⟨trivial, ⟨_, hx.p3⟩, h3⟩, ⟨⟨⟨rfl, rfl, rfl, rfl⟩, trivial⟩, ⟨trivial, hx.p3.flat, rfl⟩, trivial⟩, fun b3 q3 => ⟨?_, ⟨⟨b1, b2, b3⟩, fun y hy => ⟨q1 _ hy.p1, q2 _ hy.p2, q3 _ hy.p3⟩, ?_, ⟨rfl, (q1 _ hx.p1).flat, rfl⟩, ⟨rfl, (q2 _ hx.p2).flat, rfl⟩, ⟨rfl, (q3 _ hx.p3).flat, rfl⟩, trivial⟩⟩, trivial⟩, trivial⟩, trivial⟩
  all_goals repeat' first
    | with_reducible apply And.intro
    | exact trivial
    | exact rfl
theorem s_clone : SpecOK Tryz.prog S_clone.spec := fun a => specD_at (an := []) envOK (cwD_ok s_cli32 (cwD_ok s_clbool (cwD_ok s_cldig cw0_ok))) fun hp => g_clone a hp.1 hp.2.1 hp.2.2.1 hp.2.2.2
theorem g_cut (a : PA) (hp : ∃ x, PH a x) : G_cut a := by
  obtain ⟨x, hx⟩ := hp
  have n1 := hx.p1.nil
  have n2 := hx.p2.nil
  have n3 := hx.p3.nil
  have k1 := hx.p1.cap
  have k2 := hx.p2.cap
  have k3 := hx.p3.cap
  rw [vc_cut]
  repeat' first
    | with_reducible apply And.intro
    | intro _
    | with_reducible refine Exists.intro () ?_
    | exact trivial
    | exact rfl
  all_goals
    (try have e1 := n1 (by assumption))
    (try have e2 := n2 (by assumption))
    (try have e3 := n3 (by assumption))
    first
      | assumption
      | omega
      | (subst_vars; simp; done)
theorem s_cut : SpecOK Tryz.prog S_cut.spec := fun a => specD_at (an := []) envOK cw0_ok fun hp => g_cut a hp.1
end Go.Proofs.YtalbjjimnhldfaaGreatDoor
