/- The document's numbers as bytes: what is told of baizeref01.Num and its like (what is to be shown). -/
import Derived.Test.YtdjnipabfbblnaaGreatDoorEv13
import Derived.Test.YtdjnipabfbblnaaGreatDoorEnv
section
set_option maxRecDepth 100000
namespace Go.Proofs.YtdjnipabfbblnaaGreatDoor
open Go.Ev
-- keep num foldI
def num (n : Nat) : List Int := if n < 128 then [(n : Int)] else ((128 + n % 128 : Nat) : Int) :: num (n / 128)
def foldI (n : Int) : Int := if n < 0 then 2 * (-(n + 1)) + 1 else 2 * n
set_option linter.unusedSectionVars false
variable [Go.Ev.Frozen Tryz.prog]
noncomputable section
def cw0 : CW := fun _ _ _ _ => False
end
end Go.Proofs.YtdjnipabfbblnaaGreatDoor
end

/- The document's numbers as bytes: what is told of baizeref01.Num and its like is so. -/
section
set_option maxRecDepth 100000
namespace Go.Proofs.YtdjnipabfbblnaaGreatDoor
open Go.Ev
set_option linter.unusedSectionVars false
variable [Go.Ev.Frozen Tryz.prog]
theorem cw0_ok : CwOK Tryz.prog cw0 := fun _ _ _ _ h => h.elim
theorem wrap_u8 (x : Int) : IntKind.wrap .u8 x = x % 256 := by simp [IntKind.wrap, IntKind.bits, IntKind.signed]
theorem wrap_u64 (x : Int) : IntKind.wrap .u64 x = x % 18446744073709551616 := by simp [IntKind.wrap, IntKind.bits, IntKind.signed]
theorem wrap_i64 (x : Int) : IntKind.wrap .i64 x = (x + 9223372036854775808) % 18446744073709551616 - 9223372036854775808 := by simp [IntKind.wrap, IntKind.bits, IntKind.signed]; omega
theorem wrap_i32 (x : Int) : IntKind.wrap .i32 x = (x + 2147483648) % 4294967296 - 2147483648 := by simp [IntKind.wrap, IntKind.bits, IntKind.signed]; omega
end Go.Proofs.YtdjnipabfbblnaaGreatDoor
end

/- Positions: what is told of Cut and Clone (what is to be shown). -/
section
set_option maxRecDepth 100000
namespace Go.Proofs.YtdjnipabfbblnaaGreatDoor
open Go.Ev
-- keep Go.Ev.Sli PH
structure SA where
  n : Bool
  o : Nat
  l : Nat
  k : Nat
  c : List Value
structure PA where
  s1 : SA
  s2 : SA
  s3 : SA
  r0 : Int
  r1 : Int
  r2 : Int
  r3 : Int
  r4 : Int
structure PX where
  vars : List Int
  gone : List Bool
  tips : List Int
structure PH (a : PA) (x : PX) : Prop where
  p1 : Sli (Value.int .i32) 1 a.s1.n a.s1.o a.s1.l a.s1.k a.s1.c x.vars
  p2 : Sli Value.bool 1 a.s2.n a.s2.o a.s2.l a.s2.k a.s2.c x.gone
  p3 : Sli (Value.int .u8) 8 a.s3.n a.s3.o a.s3.l a.s3.k a.s3.c x.tips
structure RW where
  k : Nat
  c : List Value
set_option linter.unusedSectionVars false
variable [Go.Ev.Frozen Tryz.prog]
noncomputable section
abbrev SA.v (a : SA) (i : Nat) : Value := mnS i a.n a.o a.l a.k
abbrev Z4 (s : SA) : Prop := s.1 = s.1 ∧ s.2 = s.2 ∧ s.3 = s.3 ∧ s.4 = s.4
abbrev ZF (c : List Value) : Prop := True ∧ FlatL c ∧ c = c
abbrev ZR (a : PA) : Prop := a.4 = a.4 ∧ a.5 = a.5 ∧ a.6 = a.6 ∧ a.7 = a.7 ∧ a.8 = a.8 ∧ True
abbrev SB := @Sli Int (Value.int IntKind.u8) 1
def saOf (A : AW) (v : Value) : SA := ⟨(slOf v).nb, (slOf v).o, (slOf v).l, (slOf v).c, rowV A v⟩
abbrev rolls (a : PA) : List Value := [tgI .i64 a.r0, tgI .i64 a.r1, tgI .i64 a.r2, tgI .i64 a.r3, tgI .u64 a.r4]
abbrev PA.v (a : PA) (i : Nat) : Value := .agg ⟨a.s1.v i :: a.s2.v (i + 1) :: a.s3.v (i + 2) :: rolls a⟩
abbrev PA.R (a : PA) (i : Nat) (e : TypeId) : List (Nat × PO) := [(i, .f a.s1.c 21 .gro), (i + 1, .f a.s2.c 4 .gro), (i + 2, .f a.s3.c e .gro)]
def paOf (A : AW) (l : List Value) : PA := ⟨saOf A (lv l 0), saOf A (lv l 1), saOf A (lv l 2), iv (lv l 3), iv (lv l 4), iv (lv l 5), iv (lv l 6), iv (lv l 7)⟩
def paN (i : Nat) (l : List Value) : List (Nat × Nat) := renS i (lv l 0) ++ (renS (i + 1) (lv l 1) ++ renS (i + 2) (lv l 2))
def S_cli32 : SpecD where
  f := 51
  α := SA
  args a := [a.v 13]
  R a := [(13, .f a.c 21 .gro)]
  n := 13 + 1
  pre a := (∃ xs, Sli (Value.int .i32) 1 a.n a.o a.l a.k a.c xs) ∧ a.l ≤ 1000
  outs := [⟨RW, fun a b => ∀ xs, Sli (Value.int .i32) 1 a.n a.o a.l a.k a.c xs → Sli (Value.int .i32) 1 a.n 0 a.l b.k b.c xs, fun a b => mnS (13 + 1) a.n 0 a.l b.k, fun _ b => [(13 + 1, .f b.c 21 (.grown b.k))], fun _ _ => 13 + 2, fun v _ => renS (13 + 1) v⟩]
  pick _ _ := 0
  find l A := some (saOf A (lv l 0), renS 13 (lv l 0))
def G_cli32 (a : SA) : Prop := fnW Tryz.prog E0 cw0 [] S_cli32.f (S_cli32.args a) (mem (S_cli32.R a) S_cli32.n) (endD Tryz.prog S_cli32 a)
def S_clbool : SpecD where
  f := 52
  α := SA
  args a := [a.v 13]
  R a := [(13, .f a.c 4 .gro)]
  n := 13 + 1
  pre a := (∃ xs, Sli (Value.bool) 1 a.n a.o a.l a.k a.c xs) ∧ a.l ≤ 1000
  outs := [⟨RW, fun a b => ∀ xs, Sli (Value.bool) 1 a.n a.o a.l a.k a.c xs → Sli (Value.bool) 1 a.n 0 a.l b.k b.c xs, fun a b => mnS (13 + 1) a.n 0 a.l b.k, fun _ b => [(13 + 1, .f b.c 4 (.grown b.k))], fun _ _ => 13 + 2, fun v _ => renS (13 + 1) v⟩]
  pick _ _ := 0
  find l A := some (saOf A (lv l 0), renS 13 (lv l 0))
def G_clbool (a : SA) : Prop := fnW Tryz.prog E0 cw0 [] S_clbool.f (S_clbool.args a) (mem (S_clbool.R a) S_clbool.n) (endD Tryz.prog S_clbool a)
def S_cldig : SpecD where
  f := 43
  α := SA
  args a := [a.v 13]
  R a := [(13, .f a.c 50 .gro)]
  n := 13 + 1
  pre a := (∃ xs, Sli (Value.int .u8) 8 a.n a.o a.l a.k a.c xs) ∧ a.l ≤ 1000
  outs := [⟨RW, fun a b => ∀ xs, Sli (Value.int .u8) 8 a.n a.o a.l a.k a.c xs → Sli (Value.int .u8) 8 a.n 0 a.l b.k b.c xs, fun a b => mnS (13 + 1) a.n 0 a.l b.k, fun _ b => [(13 + 1, .f b.c 50 (.grown b.k))], fun _ _ => 13 + 2, fun v _ => renS (13 + 1) v⟩]
  pick _ _ := 0
  find l A := some (saOf A (lv l 0), renS 13 (lv l 0))
def G_cldig (a : SA) : Prop := fnW Tryz.prog E0 cw0 [] S_cldig.f (S_cldig.args a) (mem (S_cldig.R a) S_cldig.n) (endD Tryz.prog S_cldig a)
def cwCl : CW := cwD Tryz.prog S_cli32 (cwD Tryz.prog S_clbool (cwD Tryz.prog S_cldig cw0))
structure PB where
  b1 : RW
  b2 : RW
  b3 : RW
def PB.pa (b : PB) (a : PA) : PA := ⟨⟨a.s1.n, 0, a.s1.l, b.b1.k, b.b1.c⟩, ⟨a.s2.n, 0, a.s2.l, b.b2.k, b.b2.c⟩, ⟨a.s3.n, 0, a.s3.l, b.b3.k, b.b3.c⟩, a.r0, a.r1, a.r2, a.r3, a.r4⟩
def S_clone : SpecD where
  f := 19
  α := PA
  args a := [a.v 13]
  R a := a.R 13 50
  n := 13 + 3
  pre a := (∃ x, PH a x) ∧ (a.s1.l ≤ 1000 ∧ a.s2.l ≤ 1000 ∧ a.s3.l ≤ 1000)
  outs := [⟨PB, fun a b => ∀ x, PH a x → PH (b.pa a) x, fun a b => .agg ⟨mnS (13 + 3) a.s1.n 0 a.s1.l b.b1.k :: mnS (13 + 4) a.s2.n 0 a.s2.l b.b2.k :: mnS (13 + 5) a.s3.n 0 a.s3.l b.b3.k :: rolls a⟩,
    fun _ b => [(13 + 3, .f b.b1.c 21 (.grown b.b1.k)), (13 + 4, .f b.b2.c 4 (.grown b.b2.k)), (13 + 5, .f b.b3.c 50 (.grown b.b3.k))], fun _ _ => 13 + 6, fun v _ => paN (13 + 3) (agv v)⟩]
  pick _ _ := 0
  find l A := some (paOf A (agv (lv l 0)), paN 13 (agv (lv l 0)))
def G_clone (a : PA) : Prop := fnW Tryz.prog E0 cwCl [] S_clone.f (S_clone.args a) (mem (S_clone.R a) S_clone.n) (endD Tryz.prog S_clone a)
end
end Go.Proofs.YtdjnipabfbblnaaGreatDoor
end

/- Positions: what is told of Cut and Clone is so. -/
section
set_option maxRecDepth 100000
namespace Go.Proofs.YtdjnipabfbblnaaGreatDoor
open Go.Ev
set_option linter.unusedSectionVars false
variable [Go.Ev.Frozen Tryz.prog]
noncomputable section
def W_G_clone_0 : PA → Option AO := fun (a : PA) => Option.some (AO.row (Array.toList (Array.mk [Value.iface (1000000009 : Nat) (Value.agg (Array.mk [Value.bool a.1.1, Value.slice (Option.some (Addr.mk (13 : Nat)
a.1.2 Option.none)) a.1.3 a.1.4])), Value.iface (1000000009 : Nat) (Value.agg (Array.mk [Value.bool a.2.1, Value.slice (Option.some (Addr.mk (14 : Nat) a.2.2 Option.none)) a.2.3
a.2.4])), Value.iface (1000000009 : Nat) (Value.agg (Array.mk [Value.bool a.3.1, Value.slice (Option.some (Addr.mk (15 : Nat) a.3.2 Option.none)) a.3.3 a.3.4])), Value.iface
(1000000007 : Nat) (Value.int IntKind.i64 a.4), Value.iface (1000000007 : Nat) (Value.int IntKind.i64 a.5), Value.iface (1000000007 : Nat) (Value.int IntKind.i64 a.6), Value.iface
(1000000007 : Nat) (Value.int IntKind.i64 a.7), Value.iface (1000000007 : Nat) (Value.int IntKind.u64 a.8)])) (29 : Nat) Md.own)
end
abbrev QYposP_1 (a0 : SA) (a1 : RW) : Prop := ∀ (b0 : List Int), Sli (Value.int IntKind.i32) 1 a0.1 a0.2 a0.3 a0.4 a0.5 b0 → Sli (Value.int IntKind.i32) 1 a0.1 0 a0.3 a1.1 a1.2 b0
abbrev QYposP_2 (a0 : SA) (a1 : RW) : Prop := ∀ (b0 : List Int), Sli (Value.int IntKind.u8) 8 a0.1 a0.2 a0.3 a0.4 a0.5 b0 → Sli (Value.int IntKind.u8) 8 a0.1 0 a0.3 a1.1 a1.2 b0
abbrev QYposP_3 (a0 : SA) (a1 : RW) : Prop := ∀ (b0 : List Bool), Sli Value.bool 1 a0.1 a0.2 a0.3 a0.4 a0.5 b0 → Sli Value.bool 1 a0.1 0 a0.3 a1.1 a1.2 b0
abbrev QYposP_4 (a0 : SA) (a1 : Nat) (a2 : RW) (a3 : List Value) : Prop := (a0.1 = false ∧ 0 = 0 ∧ a0.3 = a1 ∧ a2.1 = 0) ∧ ((a2.1 = 0 ∧ a3 = []) ∧ FlatL a2.2 ∧ a2.2 = a3) ∧ True
abbrev QYposP_5 (a0 : SA) (a1 : Nat) (a2 : RW) (a3 : List Value) : Prop := (a0.1 = false ∧ 0 = 0 ∧ a0.3 = a1 ∧ a2.1 = a1) ∧ (a2.1 = a1 ∧ FlatL a2.2 ∧ a2.2 = a3) ∧ True
theorem vc_cli32 (a : SA) : G_cli32 a = ((a.1 = true → (∃ (x0 : RW), QYposP_1 a x0 ∧ (a.1 = true ∧ a.3 = 0 ∧ x0.1 = 0) ∧ (FlatL x0.2 ∧ True) ∧ True)) ∧ (a.1 = false → (a.1 = true → (0 ≤ 0 → true = true ∧ true = true ∧ 0
≤ 0 ∧ (∀ (x2 : Nat) (x3 : List Value), x2 = 0 → x3 = lput [] 0 [] → ∃ (x4 : RW), QYposP_1 a x4 ∧ QYposP_4 a x2 x4 x3)) ∧ (¬(0 ≤ 0) → Few 0 4 ∧ 0 ≤ 0 ∧ (∀ (x6 : Nat) (x7 : List
Value), x6 = 0 → x7 = lwin [] 0 0 ++ [] → ∃ (x8 : RW), QYposP_1 a x8 ∧ QYposP_5 a x6 x8 x7))) ∧ (a.1 = false → a.2 + a.3 * 1 ≤ List.length a.5 ∧ ∀ (x10 : List Value), x10 = lwin
a.5 a.2 (a.3 * 1) → (0 + a.3 ≤ 0 → true = true ∧ lall oneK x10 = true ∧ 0 + List.length x10 ≤ 0 ∧ (∀ (x11 : Nat) (x12 : List Value), x11 = 0 + a.3 → x12 = lput [] 0 x10 → ∃ (x13 :
RW), QYposP_1 a x13 ∧ QYposP_4 a x11 x13 x12)) ∧ (¬(0 + a.3 ≤ 0) → Few (0 + a.3) 4 ∧ 0 ≤ 0 ∧ ∀ (x15 : Nat) (x16 : List Value), x15 = 0 + a.3 → x16 = lwin [] 0 0 ++ x10 → ∃ (x17 :
RW), QYposP_1 a x17 ∧ QYposP_5 a x15 x17 x16)))) := by kernel_rfl
theorem vc_clbool (a : SA) : G_clbool a = ((a.1 = true → (∃ (x0 : RW), QYposP_3 a x0 ∧ (a.1 = true ∧ a.3 = 0 ∧ x0.1 = 0) ∧ (FlatL x0.2 ∧ True) ∧ True)) ∧ (a.1 = false → (a.1 = true → (0 ≤ 0 → true = true ∧ true = true ∧ 0
≤ 0 ∧ (∀ (x2 : Nat) (x3 : List Value), x2 = 0 → x3 = lput [] 0 [] → ∃ (x4 : RW), QYposP_3 a x4 ∧ QYposP_4 a x2 x4 x3)) ∧ (¬(0 ≤ 0) → Few 0 1 ∧ 0 ≤ 0 ∧ (∀ (x6 : Nat) (x7 : List
Value), x6 = 0 → x7 = lwin [] 0 0 ++ [] → ∃ (x8 : RW), QYposP_3 a x8 ∧ QYposP_5 a x6 x8 x7))) ∧ (a.1 = false → a.2 + a.3 * 1 ≤ List.length a.5 ∧ ∀ (x10 : List Value), x10 = lwin
a.5 a.2 (a.3 * 1) → (0 + a.3 ≤ 0 → true = true ∧ lall oneK x10 = true ∧ 0 + List.length x10 ≤ 0 ∧ (∀ (x11 : Nat) (x12 : List Value), x11 = 0 + a.3 → x12 = lput [] 0 x10 → ∃ (x13 :
RW), QYposP_3 a x13 ∧ QYposP_4 a x11 x13 x12)) ∧ (¬(0 + a.3 ≤ 0) → Few (0 + a.3) 1 ∧ 0 ≤ 0 ∧ ∀ (x15 : Nat) (x16 : List Value), x15 = 0 + a.3 → x16 = lwin [] 0 0 ++ x10 → ∃ (x17 :
RW), QYposP_3 a x17 ∧ QYposP_5 a x15 x17 x16)))) := by kernel_rfl
theorem vc_cldig (a : SA) : G_cldig a = ((a.1 = true → (∃ (x0 : RW), QYposP_2 a x0 ∧ (a.1 = true ∧ a.3 = 0 ∧ x0.1 = 0) ∧ (FlatL x0.2 ∧ True) ∧ True)) ∧ (a.1 = false → (a.1 = true → (0 ≤ 0 → true = true ∧ true = true ∧ 0
≤ 0 ∧ (∀ (x2 : Nat) (x3 : List Value), x2 = 0 → x3 = lput [] 0 [] → ∃ (x4 : RW), QYposP_2 a x4 ∧ QYposP_4 a x2 x4 x3)) ∧ (¬(0 ≤ 0) → Few 0 8 ∧ 0 ≤ 0 ∧ (∀ (x6 : Nat) (x7 : List
Value), x6 = 0 → x7 = lwin [] 0 0 ++ [] → ∃ (x8 : RW), QYposP_2 a x8 ∧ QYposP_5 a x6 x8 x7))) ∧ (a.1 = false → a.2 + a.3 * 8 ≤ List.length a.5 ∧ ∀ (x10 : List Value), x10 = lwin
a.5 a.2 (a.3 * 8) → (0 + a.3 ≤ 0 → true = true ∧ lall oneK x10 = true ∧ 0 + List.length x10 ≤ 0 ∧ (∀ (x11 : Nat) (x12 : List Value), x11 = 0 + a.3 → x12 = lput [] 0 x10 → ∃ (x13 :
RW), QYposP_2 a x13 ∧ QYposP_4 a x11 x13 x12)) ∧ (¬(0 + a.3 ≤ 0) → Few (0 + a.3) 8 ∧ 0 ≤ 0 ∧ ∀ (x15 : Nat) (x16 : List Value), x15 = 0 + a.3 → x16 = lwin [] 0 0 ++ x10 → ∃ (x17 :
RW), QYposP_2 a x17 ∧ QYposP_5 a x15 x17 x16)))) := by kernel_rfl
theorem vc_clone (a : PA) : G_clone a = ((True ∧ (∃ (x0 : List Int), Sli (Value.int IntKind.i32) 1 a.1.1 a.1.2 a.1.3 a.1.4 a.1.5 x0) ∧ a.1.3 ≤ 1000) ∧ ((Z4 a.1 ∧ True) ∧ ZF a.1.5 ∧ True) ∧ (∀ (x1 : RW), QYposP_1 a.1 x1 →
(True ∧ (∃ (x3 : List Bool), Sli Value.bool 1 a.2.1 a.2.2 a.2.3 a.2.4 a.2.5 x3) ∧ a.2.3 ≤ 1000) ∧ ((Z4 a.2 ∧ True) ∧ ZF a.2.5 ∧ True) ∧ (∀ (x4 : RW), QYposP_3 a.2 x4 → (True ∧ (∃
(x6 : List Int), Sli (Value.int IntKind.u8) 8 a.3.1 a.3.2 a.3.3 a.3.4 a.3.5 x6) ∧ a.3.3 ≤ 1000) ∧ ((Z4 a.3 ∧ True) ∧ ZF a.3.5 ∧ True) ∧ (∀ (x7 : RW), QYposP_2 a.3 x7 → (True ∧ True
∧ True ∧ (True ∧ True) ∧ (W_G_clone_0 a = W_G_clone_0 a ∧ True) ∧ True ∧ (True ∧ True ∧ True) ∧ (W_G_clone_0 a = W_G_clone_0 a ∧ W_G_clone_0 a = W_G_clone_0 a ∧ True) ∧ True ∧
(True ∧ True ∧ True ∧ True) ∧ (W_G_clone_0 a = W_G_clone_0 a ∧ W_G_clone_0 a = W_G_clone_0 a ∧ W_G_clone_0 a = W_G_clone_0 a ∧ True) ∧ True ∧ True ∧ True) ∧ ∃ (x9 : PB), (∀ (x10 :
PX), PH a x10 → PH (PA.mk (SA.mk a.1.1 0 a.1.3 x9.1.1 x9.1.2) (SA.mk a.2.1 0 a.2.3 x9.2.1 x9.2.2) (SA.mk a.3.1 0 a.3.3 x9.3.1 x9.3.2) a.4 a.5 a.6 a.7 a.8) x10) ∧ ((a.1.1 = a.1.1 ∧
0 = 0 ∧ a.1.3 = a.1.3 ∧ x9.1.1 = x1.1) ∧ (a.2.1 = a.2.1 ∧ 0 = 0 ∧ a.2.3 = a.2.3 ∧ x9.2.1 = x4.1) ∧ (a.3.1 = a.3.1 ∧ 0 = 0 ∧ a.3.3 = a.3.3 ∧ x9.3.1 = x7.1) ∧ a.4 = a.4 ∧ a.5 = a.5 ∧
a.6 = a.6 ∧ a.7 = a.7 ∧ a.8 = a.8 ∧ True) ∧ (x9.1.1 = x1.1 ∧ FlatL x9.1.2 ∧ x9.1.2 = x1.2) ∧ (x9.2.1 = x4.1 ∧ FlatL x9.2.2 ∧ x9.2.2 = x4.2) ∧ (x9.3.1 = x7.1 ∧ FlatL x9.3.2 ∧ x9.3.2
= x7.2) ∧ True) ∧ True) ∧ True) ∧ True) := by kernel_rfl
theorem g_cli32 (a : SA) (hp : ∃ xs, Sli (Value.int .i32) 1 a.n a.o a.l a.k a.c xs) (hl : a.l ≤ 1000) : G_cli32 a := by
  obtain ⟨ys, hy⟩ := hp
  have uniq : a.n = true → a.l = 0 ∧ ∀ zs, Sli (Value.int .i32) 1 a.n a.o a.l a.k a.c zs → Sli (Value.int .i32) 1 true 0 a.l 0 [] zs := fun hn => ⟨(hy.nil hn).1, fun zs hz => by
    have hz0 := hz.nilE hn
    subst hz0
    rw [(hy.nil hn).1]; exact .none⟩
  rw [vc_cli32]
  refine ⟨fun hn => ⟨⟨0, []⟩, fun xs hx => by (rw [hn]; exact (uniq hn).2 xs hx), ⟨hn, (uniq hn).1, rfl⟩, ⟨flatL_nil, trivial⟩, trivial⟩, fun hn => ⟨fun hc => absurd (hc.symm.trans hn) (by decide), fun _ => ⟨by have := hy.fit hn; omega, fun xs hxs => ?_⟩⟩⟩
  have hw : HW (Value.int .i32) xs ys := by rw [hxs]; exact hy.win hn
  have hlen : ys.length = a.l * 1 := hy.len
  have hxl : xs.length = a.l * 1 := hw.len.trans hlen
  have fin : ∀ (c : List Value) (k : Nat), c = xs → a.l ≤ k → ∀ zs, Sli (Value.int .i32) 1 a.n a.o a.l a.k a.c zs → Sli (Value.int .i32) 1 a.n 0 a.l k c zs := fun c k hc hk zs hz => by
    subst hc
    rw [hn]
    have hw2 : HW (Value.int .i32) c zs := by rw [hxs]; exact hz.win hn
    exact .row hw2 hz.len hk hw2.flat
  refine ⟨fun h0 => ⟨rfl, hw.oneK, by omega, fun n c hn' hc => ?_⟩, fun h0 => ⟨by unfold Few; omega, by omega, fun n c hn' hc => ?_⟩⟩
  · have hx0 : xs = [] := List.eq_nil_of_length_eq_zero (by omega)
    have hc0 : c = [] := by rw [hc, hx0]; rfl
    exact ⟨⟨0, c⟩, fin c 0 (by rw [hc0, hx0]) (by omega), ⟨hn, rfl, by omega, rfl⟩, ⟨⟨rfl, hc0⟩, by rw [hc0]; exact flatL_nil, rfl⟩, trivial⟩
  · have hcx : c = xs := by rw [hc]; rfl
    exact ⟨⟨n, c⟩, fin c n hcx (by omega), ⟨hn, rfl, by omega, rfl⟩, ⟨rfl, by rw [hcx]; exact hw.flat, rfl⟩, trivial⟩
theorem s_cli32 : SpecOK Tryz.prog S_cli32.spec := fun a => specD_at (an := []) envOK cw0_ok fun hp => g_cli32 a hp.1 hp.2
theorem g_clbool (a : SA) (hp : ∃ xs, Sli (Value.bool) 1 a.n a.o a.l a.k a.c xs) (hl : a.l ≤ 1000) : G_clbool a := by
  obtain ⟨ys, hy⟩ := hp
  have uniq : a.n = true → a.l = 0 ∧ ∀ zs, Sli (Value.bool) 1 a.n a.o a.l a.k a.c zs → Sli (Value.bool) 1 true 0 a.l 0 [] zs := fun hn => ⟨(hy.nil hn).1, fun zs hz => by
    have hz0 := hz.nilE hn
    subst hz0
    rw [(hy.nil hn).1]; exact .none⟩
  rw [vc_clbool]
  refine ⟨fun hn => ⟨⟨0, []⟩, fun xs hx => by (rw [hn]; exact (uniq hn).2 xs hx), ⟨hn, (uniq hn).1, rfl⟩, ⟨flatL_nil, trivial⟩, trivial⟩, fun hn => ⟨fun hc => absurd (hc.symm.trans hn) (by decide), fun _ => ⟨by have := hy.fit hn; omega, fun xs hxs => ?_⟩⟩⟩
  have hw : HW (Value.bool) xs ys := by rw [hxs]; exact hy.win hn
  have hlen : ys.length = a.l * 1 := hy.len
  have hxl : xs.length = a.l * 1 := hw.len.trans hlen
  have fin : ∀ (c : List Value) (k : Nat), c = xs → a.l ≤ k → ∀ zs, Sli (Value.bool) 1 a.n a.o a.l a.k a.c zs → Sli (Value.bool) 1 a.n 0 a.l k c zs := fun c k hc hk zs hz => by
    subst hc
    rw [hn]
    have hw2 : HW (Value.bool) c zs := by rw [hxs]; exact hz.win hn
    exact .row hw2 hz.len hk hw2.flatB
  refine ⟨fun h0 => ⟨rfl, hw.oneB, by omega, fun n c hn' hc => ?_⟩, fun h0 => ⟨by unfold Few; omega, by omega, fun n c hn' hc => ?_⟩⟩
  · have hx0 : xs = [] := List.eq_nil_of_length_eq_zero (by omega)
    have hc0 : c = [] := by rw [hc, hx0]; rfl
    exact ⟨⟨0, c⟩, fin c 0 (by rw [hc0, hx0]) (by omega), ⟨hn, rfl, by omega, rfl⟩, ⟨⟨rfl, hc0⟩, by rw [hc0]; exact flatL_nil, rfl⟩, trivial⟩
  · have hcx : c = xs := by rw [hc]; rfl
    exact ⟨⟨n, c⟩, fin c n hcx (by omega), ⟨hn, rfl, by omega, rfl⟩, ⟨rfl, by rw [hcx]; exact hw.flatB, rfl⟩, trivial⟩
theorem s_clbool : SpecOK Tryz.prog S_clbool.spec := fun a => specD_at (an := []) envOK cw0_ok fun hp => g_clbool a hp.1 hp.2
theorem g_cldig (a : SA) (hp : ∃ xs, Sli (Value.int .u8) 8 a.n a.o a.l a.k a.c xs) (hl : a.l ≤ 1000) : G_cldig a := by
  obtain ⟨ys, hy⟩ := hp
  have uniq : a.n = true → a.l = 0 ∧ ∀ zs, Sli (Value.int .u8) 8 a.n a.o a.l a.k a.c zs → Sli (Value.int .u8) 8 true 0 a.l 0 [] zs := fun hn => ⟨(hy.nil hn).1, fun zs hz => by
    have hz0 := hz.nilE hn
    subst hz0
    rw [(hy.nil hn).1]; exact .none⟩
  rw [vc_cldig]
  refine ⟨fun hn => ⟨⟨0, []⟩, fun xs hx => by (rw [hn]; exact (uniq hn).2 xs hx), ⟨hn, (uniq hn).1, rfl⟩, ⟨flatL_nil, trivial⟩, trivial⟩, fun hn => ⟨fun hc => absurd (hc.symm.trans hn) (by decide), fun _ => ⟨by have := hy.fit hn; omega, fun xs hxs => ?_⟩⟩⟩
  have hw : HW (Value.int .u8) xs ys := by rw [hxs]; exact hy.win hn
  have hlen : ys.length = a.l * 8 := hy.len
  have hxl : xs.length = a.l * 8 := hw.len.trans hlen
  have fin : ∀ (c : List Value) (k : Nat), c = xs → a.l ≤ k → ∀ zs, Sli (Value.int .u8) 8 a.n a.o a.l a.k a.c zs → Sli (Value.int .u8) 8 a.n 0 a.l k c zs := fun c k hc hk zs hz => by
    subst hc
    rw [hn]
    have hw2 : HW (Value.int .u8) c zs := by rw [hxs]; exact hz.win hn
    exact .row hw2 hz.len hk hw2.flat
  refine ⟨fun h0 => ⟨rfl, hw.oneK, by omega, fun n c hn' hc => ?_⟩, fun h0 => ⟨by unfold Few; omega, by omega, fun n c hn' hc => ?_⟩⟩
  · have hx0 : xs = [] := List.eq_nil_of_length_eq_zero (by omega)
    have hc0 : c = [] := by rw [hc, hx0]; rfl
    exact ⟨⟨0, c⟩, fin c 0 (by rw [hc0, hx0]) (by omega), ⟨hn, rfl, by omega, rfl⟩, ⟨⟨rfl, hc0⟩, by rw [hc0]; exact flatL_nil, rfl⟩, trivial⟩
  · have hcx : c = xs := by rw [hc]; rfl
    exact ⟨⟨n, c⟩, fin c n hcx (by omega), ⟨hn, rfl, by omega, rfl⟩, ⟨rfl, by rw [hcx]; exact hw.flat, rfl⟩, trivial⟩
theorem s_cldig : SpecOK Tryz.prog S_cldig.spec := fun a => specD_at (an := []) envOK cw0_ok fun hp => g_cldig a hp.1 hp.2
theorem g_clone (a : PA) (hp : ∃ x, PH a x) (h1 : a.s1.l ≤ 1000) (h2 : a.s2.l ≤ 1000) (h3 : a.s3.l ≤ 1000) : G_clone a := by
  obtain ⟨x, hx⟩ := hp
  rw [vc_clone]
  refine ⟨⟨trivial, ⟨_, hx.p1⟩, h1⟩, ⟨⟨⟨rfl, rfl, rfl, rfl⟩, trivial⟩, ⟨trivial, hx.p1.flat, rfl⟩, trivial⟩, fun b1 q1 => ⟨⟨trivial, ⟨_, hx.p2⟩, h2⟩, ⟨⟨⟨rfl, rfl, rfl, rfl⟩, trivial⟩, ⟨trivial, hx.p2.flat, rfl⟩, trivial⟩, fun b2 q2 => ⟨⟨trivial, ⟨_, hx.p3⟩, h3⟩, ⟨⟨⟨rfl, rfl, rfl, rfl⟩, trivial⟩, ⟨trivial, hx.p3.flat, rfl⟩, trivial⟩, fun b3 q3 => ⟨?_, ⟨⟨b1, b2, b3⟩, fun y hy => ⟨q1 _ hy.p1, q2 _ hy.p2, q3 _ hy.p3⟩, ?_, ⟨rfl, (q1 _ hx.p1).flat, rfl⟩, ⟨rfl, (q2 _ hx.p2).flat, rfl⟩, ⟨rfl, (q3 _ hx.p3).flat, rfl⟩, trivial⟩⟩, trivial⟩, trivial⟩, trivial⟩
  all_goals repeat' first
    | with_reducible apply And.intro
    | exact trivial
    | exact rfl
theorem s_clone : SpecOK Tryz.prog S_clone.spec := fun a => specD_at (an := []) envOK (cwD_ok s_cli32 (cwD_ok s_clbool (cwD_ok s_cldig cw0_ok))) fun hp => g_clone a hp.1 hp.2.1 hp.2.2.1 hp.2.2.2
end Go.Proofs.YtdjnipabfbblnaaGreatDoor
end

/- The document's bytes of a position: what is told of Encode and Same (what is to be shown). -/
section
set_option maxRecDepth 100000
namespace Go.Proofs.YtdjnipabfbblnaaGreatDoor
open Go.Ev
-- keep num foldI dnum encV encG encT enc1 enc2 enc3 enc Go.Ev.Sli PH
def dnum (l : List Int) : Int := l.foldr (fun b acc => IntKind.wrap .u64 (IntKind.wrap .u64 (acc * 256) + IntKind.wrap .u64 b)) 0
def encV (xs : List Int) (k : Nat) : List Int := (List.range k).flatMap fun j => num (foldI (xs.getD j 0)).toNat
def encG (xs : List Bool) (k : Nat) : List Int := (List.range k).flatMap fun j => num (if xs.getD j false then 1 else 0)
def encT (xs : List Int) (k : Nat) : List Int := (List.range k).flatMap fun j => num (dnum [xs.getD (8 * j) 0, xs.getD (8 * j + 1) 0, xs.getD (8 * j + 2) 0, xs.getD (8 * j + 3) 0, xs.getD (8 * j + 4) 0, xs.getD (8 * j + 5) 0, xs.getD (8 * j + 6) 0, xs.getD (8 * j + 7) 0]).toNat
structure D8 where
  d0 : Int
  d1 : Int
  d2 : Int
  d3 : Int
  d4 : Int
  d5 : Int
  d6 : Int
  d7 : Int
def D8.l (d : D8) : List Int := [d.d0, d.d1, d.d2, d.d3, d.d4, d.d5, d.d6, d.d7]
def enc1 (x : PX) (k : Nat) : List Int := num x.vars.length ++ encV x.vars k
def enc2 (x : PX) (k : Nat) : List Int := enc1 x x.vars.length ++ num x.gone.length ++ encG x.gone k
def enc3 (x : PX) (n k : Nat) : List Int := enc2 x x.gone.length ++ num n ++ encT x.tips k
def encR (a : PA) : List Int := num (foldI a.r0).toNat ++ num (foldI a.r1).toNat ++ num (foldI a.r2).toNat ++ num (foldI a.r3).toNat ++ num a.r4.toNat
def enc (a : PA) (x : PX) : List Int := enc3 x a.s3.l a.s3.l ++ encR a
structure PW (a : PA) (x : PX) : Prop where
  v : ∀ n ∈ x.vars, -2147483648 ≤ n ∧ n ≤ 2147483647
  r0 : -9223372036854775808 ≤ a.r0 ∧ a.r0 ≤ 9223372036854775807
  r1 : -9223372036854775808 ≤ a.r1 ∧ a.r1 ≤ 9223372036854775807
  r2 : -9223372036854775808 ≤ a.r2 ∧ a.r2 ≤ 9223372036854775807
  r3 : -9223372036854775808 ≤ a.r3 ∧ a.r3 ≤ 9223372036854775807
  r4 : 0 ≤ a.r4 ∧ a.r4 < 18446744073709551616
set_option linter.unusedSectionVars false
variable [Go.Ev.Frozen Tryz.prog]
noncomputable section
structure S2 where
  a : SA
  b : SA
structure BL where
  b : Bool
structure IL where
  i : Int
end
end Go.Proofs.YtdjnipabfbblnaaGreatDoor
end

/- The document's bytes of a position: what is told of Encode and Same is so. -/
section
set_option maxRecDepth 100000
namespace Go.Proofs.YtdjnipabfbblnaaGreatDoor
open Go.Ev
set_option linter.unusedSectionVars false
variable [Go.Ev.Frozen Tryz.prog]
theorem Rd.int {k : IntKind} {c : List Value} {o : Nat} {x y : Int} (h : Rd c o (.int k x)) (g : Rd c o (.int k y)) : x = y := by
  unfold Rd at h g
  rcases h with h | h <;> rcases g with g | g <;> rw [h] at g <;> first | (cases g; rfl) | (injection g with g; cases g)
theorem Rd.bool {c : List Value} {o : Nat} {x y : Bool} (h : Rd c o (.bool x)) (g : Rd c o (.bool y)) : x = y := by
  unfold Rd at h g
  rcases h with h | h <;> rcases g with g | g <;> rw [h] at g <;> first | (cases g; rfl) | (injection g with g; cases g)
theorem HV.uniq {α : Type} {f : α → Value} (hf : ∀ c o x y, Rd c o (f x) → Rd c o (f y) → x = y) {c : List Value} {o : Nat} {xs ys : List α} (h : HV f c o xs) (g : HV f c o ys) (hl : xs.length = ys.length) : xs = ys := by
  apply List.ext_getElem hl
  intro i h1 h2
  exact hf c (o + i) _ _ (h.get h1) (g.get h2)
theorem Sli.uniqI {k : IntKind} {sz o l k' : Nat} {nb : Bool} {c : List Value} {xs ys : List Int} (h : Sli (Value.int k) sz nb o l k' c xs) (g : Sli (Value.int k) sz nb o l k' c ys) : xs = ys := HV.uniq (fun _ _ _ _ => Rd.int) h.at_ g.at_ (h.len.trans g.len.symm)
theorem Sli.uniqB {sz o l k' : Nat} {nb : Bool} {c : List Value} {xs ys : List Bool} (h : Sli Value.bool sz nb o l k' c xs) (g : Sli Value.bool sz nb o l k' c ys) : xs = ys := HV.uniq (fun _ _ _ _ => Rd.bool) h.at_ g.at_ (h.len.trans g.len.symm)
theorem PH.uniq {a : PA} {x y : PX} (h : PH a x) (g : PH a y) : x = y := by
  obtain ⟨x1, x2, x3⟩ := x
  obtain ⟨y1, y2, y3⟩ := y
  have e1 : x1 = y1 := Sli.uniqI h.p1 g.p1
  have e2 : x2 = y2 := Sli.uniqB h.p2 g.p2
  have e3 : x3 = y3 := Sli.uniqI h.p3 g.p3
  rw [e1, e2, e3]
theorem getD_get {xs : List Int} {i : Nat} (h : i < xs.length) : xs.getD i 0 = xs[i] := by simp [List.getD, h]
end Go.Proofs.YtdjnipabfbblnaaGreatDoor
end

/- The program's numbers as bytes, digests as numbers: what is told of hash.Num, FromNum, octet's Put.. (what is to be shown). -/
section
set_option maxRecDepth 100000
namespace Go.Proofs.YtdjnipabfbblnaaGreatDoor
open Go.Ev
-- keep num foldI dnum frm Go.Ev.Sli
def frm (n : Int) : D8 := ⟨n % 256, n / 256 % 256, n / 65536 % 256, n / 16777216 % 256, n / 4294967296 % 256, n / 1099511627776 % 256, n / 281474976710656 % 256, n / 72057594037927936 % 256⟩
def byt (n : Int) : Prop := 0 ≤ n ∧ n ≤ 255
structure D8.Ok (d : D8) : Prop where
  h0 : byt d.d0
  h1 : byt d.d1
  h2 : byt d.d2
  h3 : byt d.d3
  h4 : byt d.d4
  h5 : byt d.d5
  h6 : byt d.d6
  h7 : byt d.d7
structure OW where
  l : Nat
  k : Nat
  c : List Value
structure OwB (b : OW) (xs : List Int) : Prop where
  at_ : HI .u8 b.c 0 xs
  l : b.l = xs.length
  k : b.c.length = b.k
  le : b.l ≤ b.k
  flat : FlatL b.c
  one : lall oneK b.c = true
set_option linter.unusedSectionVars false
variable [Go.Ev.Frozen Tryz.prog]
noncomputable section
def wI {β : Type} (v : Value) (k : Int → Option β) : Option β := match v with
  | .int _ z => k z
  | .iface _ (.int _ z) => k z
  | _ => k 0
def wB {β : Type} (v : Value) (k : Bool → Option β) : Option β := match v with
  | .bool z => k z
  | .iface _ (.bool z) => k z
  | _ => k false
def rowK {β : Type} (A : AW) (b : Nat) (k : List Value → Option β) : Option β := Option.rec (k []) (fun o => AO.rec (fun c _ _ => k c) (fun _ _ => k []) (k []) o) (A.heap.get b)
def saK {β : Type} (A : AW) (i : Nat) (v : Value) (k : SA → List (Nat × Nat) → Option β) : Option β := match v with
  | .slice (some ⟨b, o, _⟩) l c => rowK A b fun r => k ⟨false, o, l, c, r⟩ [(i, b)]
  | .iface _ (.slice (some ⟨b, o, _⟩) l c) => rowK A b fun r => k ⟨false, o, l, c, r⟩ [(i, b)]
  | .iface _ (.agg ⟨[.bool nb, .slice (some ⟨b, o, _⟩) l c]⟩) => rowK A b fun r => k ⟨nb, o, l, c, r⟩ [(i, b)]
  | _ => k ⟨true, 0, 0, 0, []⟩ []
def ptK {β : Type} (v : Value) (k : Nat → Option β) : Option β := match v with
  | .pointer (some ⟨b, _, _⟩) => k b
  | .iface _ (.pointer (some ⟨b, _, _⟩)) => k b
  | _ => k 0
def d8K {β : Type} (l : List Value) (k : D8 → Option β) : Option β := wI (lv l 0) fun a => wI (lv l 1) fun b => wI (lv l 2) fun c => wI (lv l 3) fun d => wI (lv l 4) fun e => wI (lv l 5) fun f => wI (lv l 6) fun g => wI (lv l 7) fun h => k ⟨a, b, c, d, e, f, g, h⟩
abbrev D8.v (d : D8) : Value := .agg ⟨[tgI .u8 d.d0, tgI .u8 d.d1, tgI .u8 d.d2, tgI .u8 d.d3, tgI .u8 d.d4, tgI .u8 d.d5, tgI .u8 d.d6, tgI .u8 d.d7]⟩
def S_hnum : SpecD where
  f := 46
  α := D8
  args a := [a.v]
  R _ := []
  n := 13
  pre a := a.Ok ∧ True
  outs := [⟨Unit, fun _ _ => True, fun a _ => tgI .u64 (dnum a.l), fun _ _ => [], fun _ _ => 13, fun _ _ => []⟩]
  pick _ _ := 0
  find l _ := d8K (agv (lv l 0)) fun d => some (d, [])
def G_hnum (a : D8) : Prop := fnW Tryz.prog E0 cw0 [] S_hnum.f (S_hnum.args a) (mem (S_hnum.R a) S_hnum.n) (endD Tryz.prog S_hnum a)
def S_hfrom : SpecD where
  f := 14
  α := Int
  args a := [tgI .u64 a]
  R _ := []
  n := 13
  pre a := (0 ≤ a ∧ a < 18446744073709551616) ∧ True
  outs := [⟨Unit, fun _ _ => True, fun a _ => (frm a).v, fun _ _ => [], fun _ _ => 13, fun _ _ => []⟩]
  pick _ _ := 0
  find l _ := wI (lv l 0) fun a => some (a, [])
def G_hfrom (a : Int) : Prop := fnW Tryz.prog E0 cw0 [] S_hfrom.f (S_hfrom.args a) (mem (S_hfrom.R a) S_hfrom.n) (endD Tryz.prog S_hfrom a)
end
end Go.Proofs.YtdjnipabfbblnaaGreatDoor
end

/- The program's numbers as bytes, digests as numbers: what is told of hash.Num, FromNum, octet's Put.. is so. -/
section
set_option maxRecDepth 100000
namespace Go.Proofs.YtdjnipabfbblnaaGreatDoor
open Go.Ev
set_option linter.unusedSectionVars false
variable [Go.Ev.Frozen Tryz.prog]
theorem vc_hnum (a : D8) : G_hnum a = (∀ x0, x0 = IntKind.wrap .u64 a.1 → (0 : Int) ≤ (0 : Int) ∧ ∀ x1, x1 = IntKind.wrap .u64 (x0 * (1 : Int)) → ∀ x2, x2 = IntKind.wrap .u64 (bitsOf BinOp.or IntKind.u64 (0 : Int) x1)
→ ∀ x3, x3 = IntKind.wrap .u64 a.2 → (0 : Int) ≤ (8 : Int) ∧ ∀ x4, x4 = IntKind.wrap .u64 (x3 * (256 : Int)) → ∀ x5, x5 = IntKind.wrap .u64 (bitsOf BinOp.or IntKind.u64 x2 x4) → ∀
x6, x6 = IntKind.wrap .u64 a.3 → (0 : Int) ≤ (16 : Int) ∧ ∀ x7, x7 = IntKind.wrap .u64 (x6 * (65536 : Int)) → ∀ x8, x8 = IntKind.wrap .u64 (bitsOf BinOp.or IntKind.u64 x5 x7) → ∀
x9, x9 = IntKind.wrap .u64 a.4 → (0 : Int) ≤ (24 : Int) ∧ ∀ x10, x10 = IntKind.wrap .u64 (x9 * (16777216 : Int)) → ∀ x11, x11 = IntKind.wrap .u64 (bitsOf BinOp.or IntKind.u64 x8
x10) → ∀ x12, x12 = IntKind.wrap .u64 a.5 → (0 : Int) ≤ (32 : Int) ∧ ∀ x13, x13 = IntKind.wrap .u64 (x12 * (4294967296 : Int)) → ∀ x14, x14 = IntKind.wrap .u64 (bitsOf BinOp.or
IntKind.u64 x11 x13) → ∀ x15, x15 = IntKind.wrap .u64 a.6 → (0 : Int) ≤ (40 : Int) ∧ ∀ x16, x16 = IntKind.wrap .u64 (x15 * (1099511627776 : Int)) → ∀ x17, x17 = IntKind.wrap .u64
(bitsOf BinOp.or IntKind.u64 x14 x16) → ∀ x18, x18 = IntKind.wrap .u64 a.7 → (0 : Int) ≤ (48 : Int) ∧ ∀ x19, x19 = IntKind.wrap .u64 (x18 * (281474976710656 : Int)) → ∀ x20, x20 =
IntKind.wrap .u64 (bitsOf BinOp.or IntKind.u64 x17 x19) → ∀ x21, x21 = IntKind.wrap .u64 a.8 → (0 : Int) ≤ (56 : Int) ∧ ∀ x22, x22 = IntKind.wrap .u64 (x21 * (72057594037927936 :
Int)) → ∀ x23, x23 = IntKind.wrap .u64 (bitsOf BinOp.or IntKind.u64 x20 x22) → ∃ (x24 : Unit), True ∧ dnum [a.1, a.2, a.3, a.4, a.5, a.6, a.7, a.8] = x23 ∧ True) := by kernel_rfl
theorem vc_hfrom (a : Int) : G_hfrom a = ((0 : Int) ≤ (0 : Int) ∧ ∀ (x0 : Int), x0 = Int.fdiv a (1 : Int) → ∀ x1, x1 = IntKind.wrap .u8 x0 → (0 : Int) ≤ (8 : Int) ∧ ∀ (x2 : Int), x2 = Int.fdiv a (256 : Int) → ∀ x3, x3 =
IntKind.wrap .u8 x2 → (0 : Int) ≤ (16 : Int) ∧ ∀ (x4 : Int), x4 = Int.fdiv a (65536 : Int) → ∀ x5, x5 = IntKind.wrap .u8 x4 → (0 : Int) ≤ (24 : Int) ∧ ∀ (x6 : Int), x6 = Int.fdiv a
(16777216 : Int) → ∀ x7, x7 = IntKind.wrap .u8 x6 → (0 : Int) ≤ (32 : Int) ∧ ∀ (x8 : Int), x8 = Int.fdiv a (4294967296 : Int) → ∀ x9, x9 = IntKind.wrap .u8 x8 → (0 : Int) ≤ (40 :
Int) ∧ ∀ (x10 : Int), x10 = Int.fdiv a (1099511627776 : Int) → ∀ x11, x11 = IntKind.wrap .u8 x10 → (0 : Int) ≤ (48 : Int) ∧ ∀ (x12 : Int), x12 = Int.fdiv a (281474976710656 : Int)
→ ∀ x13, x13 = IntKind.wrap .u8 x12 → (0 : Int) ≤ (56 : Int) ∧ ∀ (x14 : Int), x14 = Int.fdiv a (72057594037927936 : Int) → ∀ x15, x15 = IntKind.wrap .u8 x14 → ∃ (x16 : Unit), True
∧ (a % (256 : Int) = x1 ∧ a / (256 : Int) % (256 : Int) = x3 ∧ a / (65536 : Int) % (256 : Int) = x5 ∧ a / (16777216 : Int) % (256 : Int) = x7 ∧ a / (4294967296 : Int) % (256 : Int)
= x9 ∧ a / (1099511627776 : Int) % (256 : Int) = x11 ∧ a / (281474976710656 : Int) % (256 : Int) = x13 ∧ a / (72057594037927936 : Int) % (256 : Int) = x15 ∧ True) ∧ True) := by kernel_rfl
theorem or_add (i : Nat) (m b : Int) (hm : 0 ≤ m ∧ m < 2 ^ i) (hb : 0 ≤ b) (hlt : m + b * 2 ^ i < 18446744073709551616) : bitsOf .or .u64 m (b * 2 ^ i) = m + b * 2 ^ i := by
  obtain ⟨m', rfl⟩ := Int.eq_ofNat_of_zero_le hm.1
  obtain ⟨b', rfl⟩ := Int.eq_ofNat_of_zero_le hb
  have hm' : m' < 2 ^ i := by have := hm.2; exact_mod_cast this
  have e : ((b' : Int) * 2 ^ i) = ((b' * 2 ^ i : Nat) : Int) := by push_cast; rfl
  have hlt' : m' + b' * 2 ^ i < 18446744073709551616 := by rw [e] at hlt; omega
  have hb64 : (2 : Nat) ^ IntKind.u64.bits = 18446744073709551616 := by decide
  rw [e]
  show (((BitVec.ofInt IntKind.u64.bits (m' : Int) ||| BitVec.ofInt IntKind.u64.bits ((b' * 2 ^ i : Nat) : Int)).toNat : Nat) : Int) = _
  rw [BitVec.toNat_or, ofInt_nat (by rw [hb64]; omega), ofInt_nat (by rw [hb64]; omega)]
  have : m' ||| b' * 2 ^ i = m' + b' * 2 ^ i := by
    rw [Nat.or_comm, Nat.mul_comm b', ← Nat.two_pow_add_eq_or_of_lt hm' b', Nat.add_comm]
  rw [this]; push_cast; rfl
theorem or_step {i : Nat} {P m d x w o : Int} (hP : P = 2 ^ i) (hi : P * 256 ≤ 18446744073709551616) (hm : 0 ≤ m ∧ m < P) (hd : 0 ≤ d ∧ d ≤ 255) (hx : x = IntKind.wrap .u64 d) (hw : w = IntKind.wrap .u64 (x * P)) (ho : o = IntKind.wrap .u64 (bitsOf .or .u64 m w)) : o = m + d * P ∧ 0 ≤ o ∧ o < P * 256 := by
  have h1 : d * P ≤ 255 * P := Int.mul_le_mul_of_nonneg_right hd.2 (by omega)
  have h0 : 0 ≤ d * P := Int.mul_nonneg hd.1 (by omega)
  rw [wrap_u64] at hx hw ho
  have ex : x = d := by omega
  subst ex
  have ew : w = x * P := by rw [hw]; exact Int.emod_eq_of_lt h0 (by omega)
  have hor : bitsOf .or .u64 m w = m + x * P := by
    rw [ew, hP]
    exact or_add i m x (by rw [← hP]; exact hm) hd.1 (by rw [← hP]; omega)
  rw [hor, Int.emod_eq_of_lt (by omega) (by omega)] at ho
  omega
theorem g_hnum (a : D8) (hp : a.Ok) : G_hnum a := by
  obtain ⟨h0, h1, h2, h3, h4, h5, h6, h7⟩ := hp
  rw [vc_hnum]
  intro x0 e0
  refine ⟨by decide, fun x1 e1 x2 e2 x3 e3 => ⟨by decide, fun x4 e4 x5 e5 x6 e6 => ⟨by decide, fun x7 e7 x8 e8 x9 e9 => ⟨by decide, fun x10 e10 x11 e11 x12 e12 => ⟨by decide, fun x13 e13 x14 e14 x15 e15 => ⟨by decide, fun x16 e16 x17 e17 x18 e18 => ⟨by decide, fun x19 e19 x20 e20 x21 e21 => ⟨by decide, fun x22 e22 x23 e23 => ⟨(), trivial, ?_, trivial⟩⟩⟩⟩⟩⟩⟩⟩⟩
  obtain ⟨k0, p0⟩ := or_step (i := 0) rfl (by decide) (by decide) h0 e0 e1 e2
  obtain ⟨k1, p1⟩ := or_step (i := 8) rfl (by decide) p0 h1 e3 e4 e5
  obtain ⟨k2, p2⟩ := or_step (i := 16) rfl (by decide) p1 h2 e6 e7 e8
  obtain ⟨k3, p3⟩ := or_step (i := 24) rfl (by decide) p2 h3 e9 e10 e11
  obtain ⟨k4, p4⟩ := or_step (i := 32) rfl (by decide) p3 h4 e12 e13 e14
  obtain ⟨k5, p5⟩ := or_step (i := 40) rfl (by decide) p4 h5 e15 e16 e17
  obtain ⟨k6, p6⟩ := or_step (i := 48) rfl (by decide) p5 h6 e18 e19 e20
  obtain ⟨k7, p7⟩ := or_step (i := 56) rfl (by decide) p6 h7 e21 e22 e23
  clear e0 e1 e2 e3 e4 e5 e6 e7 e8 e9 e10 e11 e12 e13 e14 e15 e16 e17 e18 e19 e20 e21 e22 e23
  unfold byt at h0 h1 h2 h3 h4 h5 h6 h7
  show dnum [a.d0, a.d1, a.d2, a.d3, a.d4, a.d5, a.d6, a.d7] = x23
  have st : ∀ {d s : Int} (B : Int), (0 ≤ d ∧ d ≤ 255) → (0 ≤ s ∧ s < B) → B * 256 ≤ 18446744073709551616 → IntKind.wrap .u64 (IntKind.wrap .u64 (s * 256) + IntKind.wrap .u64 d) = s * 256 + d ∧ 0 ≤ s * 256 + d ∧ s * 256 + d < B * 256 := fun B hd hs hB => by
    rw [wrap_u64, wrap_u64, wrap_u64]; omega
  simp only [dnum, List.foldr_cons, List.foldr_nil]
  obtain ⟨j7, q7⟩ := st (d := a.d7) (s := 0) 1 h7 (by decide) (by decide)
  rw [j7]
  obtain ⟨j6, q6⟩ := st (d := a.d6) _ h6 q7 (by decide)
  rw [j6]
  obtain ⟨j5, q5⟩ := st (d := a.d5) _ h5 q6 (by decide)
  rw [j5]
  obtain ⟨j4, q4⟩ := st (d := a.d4) _ h4 q5 (by decide)
  rw [j4]
  obtain ⟨j3, q3⟩ := st (d := a.d3) _ h3 q4 (by decide)
  rw [j3]
  obtain ⟨j2, q2⟩ := st (d := a.d2) _ h2 q3 (by decide)
  rw [j2]
  obtain ⟨j1, q1⟩ := st (d := a.d1) _ h1 q2 (by decide)
  rw [j1]
  obtain ⟨j0, q0⟩ := st (d := a.d0) _ h0 q1 (by decide)
  rw [j0]
  clear j0 j1 j2 j3 j4 j5 j6 j7 q0 q1 q2 q3 q4 q5 q6 q7 p0 p1 p2 p3 p4 p5 p6 p7
  omega
theorem s_hnum : SpecOK Tryz.prog S_hnum.spec := fun a => specD_at (an := []) envOK cw0_ok fun hp => g_hnum a hp.1
theorem fdiv_pos (a b : Int) (hb : 0 ≤ b) : Int.fdiv a b = a / b := Int.fdiv_eq_ediv_of_nonneg a hb
theorem g_hfrom (a : Int) (hp : 0 ≤ a ∧ a < 18446744073709551616) : G_hfrom a := by
  rw [vc_hfrom]
  refine ⟨by decide, fun x0 e0 x1 e1 => ⟨by decide, fun x2 e2 x3 e3 => ⟨by decide, fun x4 e4 x5 e5 => ⟨by decide, fun x6 e6 x7 e7 => ⟨by decide, fun x8 e8 x9 e9 => ⟨by decide, fun x10 e10 x11 e11 => ⟨by decide, fun x12 e12 x13 e13 => ⟨by decide, fun x14 e14 x15 e15 => ⟨(), trivial, ?_, trivial⟩⟩⟩⟩⟩⟩⟩⟩⟩
  rw [wrap_u8] at e1 e3 e5 e7 e9 e11 e13 e15
  rw [fdiv_pos _ _ (by decide)] at e0 e2 e4 e6 e8 e10 e12 e14
  subst e0 e2 e4 e6 e8 e10 e12 e14
  rw [Int.ediv_one] at e1
  exact ⟨e1.symm, e3.symm, e5.symm, e7.symm, e9.symm, e11.symm, e13.symm, e15.symm, trivial⟩
theorem s_hfrom : SpecOK Tryz.prog S_hfrom.spec := fun a => specD_at (an := []) envOK cw0_ok fun hp => g_hfrom a hp.1
theorem HV.lput {k : IntKind} {c vs : List Value} {xs ys : List Int} {o : Nat} (h : HV (Value.int k) c 0 xs) (g : HE k vs ys) (ho : o = xs.length) (hf : o + vs.length ≤ c.length) : HV (Value.int k) (Ev.lput c o vs) 0 (xs ++ ys) := fun i x hx => by
  rw [Nat.zero_add]
  by_cases hi : i < xs.length
  · rw [List.getElem?_append_left hi] at hx
    have := h i x hx
    rw [Nat.zero_add] at this
    unfold Rd Ev.lput at *
    rw [List.getElem?_append_left (by simp; omega), List.getElem?_take_of_lt (by omega)]; exact this
  · rw [List.getElem?_append_right (by omega)] at hx
    have hy : i - xs.length < ys.length := (List.getElem?_eq_some_iff.1 hx).1
    have := g.at_ _ x hx
    rw [Nat.zero_add] at this
    have hl := g.len
    unfold Rd Ev.lput at *
    rw [List.getElem?_append_right (by simp; omega), List.getElem?_append_left (by simp; omega)]
    rw [show i - (List.take o c).length = i - xs.length by simp; omega]; exact this
theorem OwB.uniq {b : OW} {xs ys : List Int} (h : OwB b xs) (g : OwB b ys) : xs = ys := HV.uniq (fun _ _ _ _ => Rd.int) h.at_ g.at_ (h.l.symm.trans g.l)
end Go.Proofs.YtdjnipabfbblnaaGreatDoor
end

/- Numbers read from bytes, in plain Lean: what the document's reader tells; numbers that are written are read. -/
section
namespace Go.Proofs.YtdjnipabfbblnaaGreatDoor
def lead : Nat → List Int → Nat
  | 0, _ => 0
  | _ + 1, [] => 0
  | n + 1, b :: l => if 128 ≤ b then lead n l + 1 else 0
def valN : List Int → Nat
  | [] => 0
  | b :: l => b.toNat % 128 + 128 * valN l
structure LR where
  n : Int
  k : Int
  e : Int
def lookN (bs : List Int) : LR :=
  if lead 10 bs = bs.length ∧ lead 10 bs < 10 then ⟨0, 0, 4⟩
  else if lead 10 bs = 10 ∨ (0 < lead 10 bs ∧ bs.getD (lead 10 bs) 0 = 0) ∨ (lead 10 bs = 9 ∧ 1 < bs.getD 9 0) then ⟨0, 0, 3⟩
  else ⟨valN (bs.take (lead 10 bs + 1)), lead 10 bs + 1, 0⟩
def Byts8 (bs : List Int) : Prop := ∀ b ∈ bs, 0 ≤ b ∧ b ≤ 255
set_option linter.unusedSectionVars false
variable [Go.Ev.Frozen Tryz.prog]
end Go.Proofs.YtdjnipabfbblnaaGreatDoor
end

/- Readers: what is told of look, number, Read, Num, Int and their like (what is to be shown). -/
section
set_option maxRecDepth 100000
namespace Go.Proofs.YtdjnipabfbblnaaGreatDoor
open Go.Ev
-- keep num foldI dnum frm Go.Ev.Sli lookN Byts8 valN lead rdC unfI OwB Go.Ev.HV
def unfI (n : Int) : Int := if n % 2 = 1 then -(n / 2) - 1 else n / 2
structure RR where
  at_ : Int
  e : Int
  n : Int
def rdC (bs : List Int) (at_ e m : Int) : RR :=
  if e ≠ 0 then ⟨at_, e, 0⟩
  else if (lookN (bs.drop at_.toNat)).e ≠ 0 then ⟨at_, (lookN (bs.drop at_.toNat)).e, 0⟩
  else if m < (lookN (bs.drop at_.toNat)).n then ⟨at_, 2, 0⟩
  else ⟨at_ + (lookN (bs.drop at_.toNat)).k, 0, (lookN (bs.drop at_.toNat)).n⟩
structure RA where
  s : SA
  at_ : Int
  e : Int
  m : Int
structure RI (a : RA) (xs : List Int) : Prop where
  sl : Sli (Value.int .u8) 1 a.s.n a.s.o a.s.l a.s.k a.s.c xs
  by_ : Byts8 xs
  at0 : 0 ≤ a.at_
  at1 : a.at_ ≤ a.s.l
  m0 : 0 ≤ a.m
  m1 : a.m < 18446744073709551616
set_option linter.unusedSectionVars false
variable [Go.Ev.Frozen Tryz.prog]
noncomputable section
def cwN (s : CW → CW) : Nat → CW
  | 0 => cw0
  | n + 1 => s fun f args A K => fnW Tryz.prog E0 (cwN s n) [] f args A K
def ptB (v : Value) : Nat := match v with
  | .pointer (some ⟨b, _, _⟩) => b
  | .iface _ (.pointer (some ⟨b, _, _⟩)) => b
  | _ => 0
end
end Go.Proofs.YtdjnipabfbblnaaGreatDoor
end

/- Readers: what is told of look, number, Read, Num, Int and their like is so. -/
section
set_option maxRecDepth 100000
namespace Go.Proofs.YtdjnipabfbblnaaGreatDoor
open Go.Ev
set_option linter.unusedSectionVars false
variable [Go.Ev.Frozen Tryz.prog]
theorem Sli.rdD {k : IntKind} {nb : Bool} {o l kk : Nat} {c : List Value} {xs : List Int} (h : Sli (Value.int k) 1 nb o l kk c xs) {i : Nat} (hi : i < l) {p : Nat} (hp : p = o + i * 1) : Rd c (Nat.add p 0) (Value.int k (xs.getD i 0)) := by
  have hl := h.len
  have hi' : i < xs.length := by omega
  have := h.at_.get hi'
  rw [hp]
  show Rd c (o + i * 1) _
  rw [Nat.mul_one, getD_get hi']
  exact this
theorem wrap_sm {x : Int} (h : -9223372036854775808 ≤ x ∧ x ≤ 9223372036854775807) : IntKind.wrap .i64 x = x := by rw [wrap_i64]; omega
theorem RI.uniq {a : RA} {xs ys : List Int} (h : RI a xs) (g : RI a ys) : xs = ys := Sli.uniqI h.sl g.sl
theorem RI.len {a : RA} {xs : List Int} (h : RI a xs) : xs.length = a.s.l := by have := h.sl.len; omega
theorem cwN_ok {s : CW → CW} (hs : ∀ cw, CwOK Tryz.prog cw → CwOK Tryz.prog (s cw)) : ∀ n, CwOK Tryz.prog (cwN s n) := by
  intro n
  induction n with
  | zero => exact cw0_ok
  | succ n ih => exact hs _ (cw_fn envOK ih)
end Go.Proofs.YtdjnipabfbblnaaGreatDoor
end

/- The machine: what is told of its instructions, of a step, of a run (what is to be shown). -/
section
set_option maxRecDepth 100000
namespace Go.Proofs.YtdjnipabfbblnaaGreatDoor
open Go.Ev
-- keep num foldI dnum frm Go.Ev.Sli Go.Ev.HV insAt argP rightP hasC farC stepC okAt twoC truthC W32 runC storeC cells4
structure Ins where
  op : Int
  a : Int
  b : Int
  c : Int
abbrev Ins.v (i : Ins) : Value := .agg ⟨[tgI .i64 i.op, tgI .i64 i.a, tgI .i64 i.b, tgI .i64 i.c]⟩
structure MS where
  pc : Int
  mem : List Int
  halt : Int
def insAt (cs : List Int) (p : Nat) : Ins := ⟨cs.getD (4 * p) 0, cs.getD (4 * p + 1) 0, cs.getD (4 * p + 2) 0, cs.getD (4 * p + 3) 0⟩
def hasC (op : Int) : List UInt8 :=
  if op = 0 then [110] else if op = 1 then [119, 110] else if op = 2 then [119, 119] else if op = 14 then [119, 119] else if op = 17 then [119, 110, 110] else if op = 18 then [119, 119, 110] else
  if op = 19 then [112] else if op = 20 then [112, 119] else if op = 21 then [112, 119] else [119, 119, 119]
def argP (s : List UInt8) (k : Nat) (n size words : Int) : Prop := if k < s.length then (if s.getD k 0 = 119 then 0 ≤ n ∧ n < words else if s.getD k 0 = 112 then 0 ≤ n ∧ n < size else -2147483648 ≤ n ∧ n ≤ 2147483647) else n = 0
instance {s : List UInt8} {k : Nat} {n size words : Int} : Decidable (argP s k n size words) := by unfold argP; infer_instance
def rightP (size words : Int) (i : Ins) : Prop := (0 ≤ i.op ∧ i.op < 22) ∧ (argP (hasC i.op) 0 i.a size words ∧ argP (hasC i.op) 1 i.b size words ∧ argP (hasC i.op) 2 i.c size words) ∧ (i.op = 0 → i.a = 0 ∨ i.a = 1) ∧ (i.op = 17 → i.b ≤ i.c) ∧ (i.op = 18 → 0 ≤ i.c)
instance {size words : Int} {i : Ins} : Decidable (rightP size words i) := by unfold rightP; infer_instance
def okAt (cs : List Int) (s : MS) : Prop := cs.length / 4 ≤ 2048 ∧ s.pc < (cs.length / 4 : Nat) ∧ rightP (cs.length / 4 : Nat) s.mem.length (insAt cs s.pc.toNat)
instance {cs : List Int} {s : MS} : Decidable (okAt cs s) := by unfold okAt; infer_instance
def truthC (p : Prop) [Decidable p] : Int := if p then 1 else 0
def farC (i : Ins) (m : List Int) : Int :=
  let q := if i.op = 15 then IntKind.wrap .i64 (i.b + m.getD i.c.toNat 0) else if i.op = 16 then IntKind.wrap .i64 (i.a + m.getD i.b.toNat 0) else -1
  if (m.length : Int) ≤ q then -1 else max q (-1)
def twoC (op b c : Int) : Int :=
  if op = 3 then IntKind.wrap .i32 (b + c) else if op = 4 then IntKind.wrap .i32 (b - c) else if op = 5 then IntKind.wrap .i32 (b * c) else
  if op = 6 then (if c = 0 then 0 else IntKind.wrap .i32 (b.tdiv c)) else if op = 7 then (if c = 0 then 0 else b.tmod c) else
  if op = 8 then truthC (b = c) else if op = 9 then truthC (b ≠ c) else if op = 10 then truthC (b < c) else if op = 11 then truthC (b ≤ c) else
  if op = 12 then truthC (b ≠ 0 ∧ c ≠ 0) else truthC (b ≠ 0 ∨ c ≠ 0)
def storeC (i : Ins) (m : List Int) : Option (Int × Int) :=
  if i.op = 1 then some (i.a, IntKind.wrap .i32 i.b) else if i.op = 2 then some (i.a, m.getD i.b.toNat 0) else if i.op = 14 then some (i.a, truthC (m.getD i.b.toNat 0 = 0)) else
  if i.op = 15 then some (i.a, m.getD (farC i m).toNat 0) else if i.op = 16 then some (farC i m, m.getD i.c.toNat 0) else
  if i.op = 17 then some (i.a, min (max (m.getD i.a.toNat 0) (IntKind.wrap .i32 i.b)) (IntKind.wrap .i32 i.c)) else
  if i.op = 18 then some (i.a, truthC (0 ≤ m.getD i.b.toNat 0 ∧ m.getD i.b.toNat 0 < i.c)) else
  if i.op = 19 ∨ i.op = 20 ∨ i.op = 21 then none else some (i.a, twoC i.op (m.getD i.b.toNat 0) (m.getD i.c.toNat 0))
def goalC (i : Ins) (s : MS) : Int :=
  if i.op = 19 then i.a else if i.op = 20 then (if s.mem.getD i.b.toNat 0 = 0 then i.a else s.pc + 1) else if i.op = 21 then (if s.mem.getD i.b.toNat 0 = 0 then s.pc + 1 else i.a) else s.pc + 1
def stepC (cs : List Int) (s : MS) : MS :=
  let i := insAt cs s.pc.toNat
  if ¬ okAt cs s then ⟨s.pc, s.mem, 2⟩ else
  if farC i s.mem < 0 ∧ (i.op = 15 ∨ i.op = 16) then ⟨s.pc, s.mem, 2⟩ else
  if i.op = 0 then ⟨s.pc, s.mem, 1 + i.a⟩ else
  ⟨goalC i s, match storeC i s.mem with
    | some (p, v) => s.mem.set p.toNat v
    | none => s.mem, s.halt⟩
def runC (cs : List Int) (s : MS) : Nat → MS
  | 0 => s
  | n + 1 => if s.halt = 0 then runC cs (stepC cs s) n else s
def W32 (xs : List Int) : Prop := ∀ x ∈ xs, -2147483648 ≤ x ∧ x ≤ 2147483647
structure RtA where
  i : Ins
  size : Int
  words : Int
structure StA where
  pc : Int
  halt : Int
  l : Nat
  k : Nat
  c : List Value
  s : SA
structure KI where
  k : Int
structure StO where
  pc : Int
  halt : Int
  c : List Value
set_option linter.unusedSectionVars false
variable [Go.Ev.Frozen Tryz.prog]
noncomputable section
abbrev globM : List (Nat × PO) := [(4, .f cells4 404 .ro)]
def insK {β : Type} (l : List Value) (k : Ins → Option β) : Option β := wI (lv l 0) fun o => wI (lv l 1) fun a => wI (lv l 2) fun b => wI (lv l 3) fun c => k ⟨o, a, b, c⟩
def S_has : SpecD where
  f := 305
  α := Ins
  args a := [a.v]
  R _ := globM
  n := 13
  pre a := 0 ≤ a.op ∧ a.op < 22
  outs := [⟨Unit, fun _ _ => True, fun a _ => tg (mkStr (hasC a.op)), fun _ _ => [], fun _ _ => 13, fun _ _ => []⟩]
  pick _ _ := 0
  find l _ := insK (agv (lv l 0)) fun i => some (i, [])
def G_has (a : Ins) : Prop := fnW Tryz.prog E0 (cwN (fun c => c) 3) [] S_has.f (S_has.args a) (mem (S_has.R a) S_has.n) (endD Tryz.prog S_has a)
def S_right : SpecD where
  f := 275
  α := RtA
  args a := [a.i.v, tgI .i64 a.size, tgI .i64 a.words]
  R _ := globM
  n := 13
  pre _ := True
  outs := [⟨Unit, fun a _ => rightP a.size a.words a.i, fun _ _ => .bool true, fun _ _ => [], fun _ _ => 13, fun _ _ => []⟩,
    ⟨Unit, fun a _ => ¬ rightP a.size a.words a.i, fun _ _ => .bool false, fun _ _ => [], fun _ _ => 13, fun _ _ => []⟩]
  pick v _ := match v with
    | .bool b => Bool.rec 1 0 b
    | _ => 1
  find l _ := insK (agv (lv l 0)) fun i => wI (lv l 1) fun s => wI (lv l 2) fun w => some (⟨i, s, w⟩, [])
def la_right (a : RtA) : LA where
  α := KI
  at_ e := ⟨[(1, tgI .i64 a.size), (2, tgI .i64 a.words), (3, .pointer (some ⟨13, 0, none⟩)), (7, tg (mkStr (hasC a.i.op))), (18, .agg ⟨[tgI .i64 a.i.a, tgI .i64 a.i.b, tgI .i64 a.i.c]⟩), (19, tgI .i64 e.k)], (13, .p (.row [tgI .i64 a.i.op, tgI .i64 a.i.a, tgI .i64 a.i.b, tgI .i64 a.i.c] 307 .own)) :: globM, 13 + 1⟩
  J e := (0 ≤ e.k ∧ e.k ≤ 3) ∧ (0 ≤ a.i.op ∧ a.i.op < 22) ∧ (1 ≤ e.k → argP (hasC a.i.op) 0 a.i.a a.size a.words) ∧ (2 ≤ e.k → argP (hasC a.i.op) 1 a.i.b a.size a.words) ∧ (3 ≤ e.k → argP (hasC a.i.op) 2 a.i.c a.size a.words)
  μ e := (3 - e.k).toNat
  ren s := renP 13 (tv s 3)
def G_right (a : RtA) : Prop := fnW Tryz.prog E0 (cwN (fun c => cwD Tryz.prog S_has c) 4) [some (la_right a)] S_right.f (S_right.args a) (mem (S_right.R a) S_right.n) (endD Tryz.prog S_right a)
end
end Go.Proofs.YtdjnipabfbblnaaGreatDoor
end
