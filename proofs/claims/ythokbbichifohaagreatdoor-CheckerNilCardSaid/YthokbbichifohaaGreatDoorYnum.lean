/- The document's numbers as bytes: what is told of baizeref01.Num and its like (what is to be shown). -/
import Derived.Test.YthokbbichifohaaGreatDoorEv11
import Derived.Test.YthokbbichifohaaGreatDoorEnv
import Derived.Test.YthokbbichifohaaGreatDoorEvS
import Derived.Below
section
set_option maxRecDepth 100000
namespace Go.Proofs.YthokbbichifohaaGreatDoor
open Go.Ev
-- keep num foldI
def num (n : Nat) : List Int := if n < 128 then [(n : Int)] else ((128 + n % 128 : Nat) : Int) :: num (n / 128)
def foldI (n : Int) : Int := if n < 0 then 2 * (-(n + 1)) + 1 else 2 * n
set_option linter.unusedSectionVars false
variable [Go.Ev.Frozen Tryz.prog]
noncomputable section
def cw0 : CW := fun _ _ _ _ => False
end
end Go.Proofs.YthokbbichifohaaGreatDoor
end

/- The document's numbers as bytes: what is told of baizeref01.Num and its like is so. -/
section
set_option maxRecDepth 100000
namespace Go.Proofs.YthokbbichifohaaGreatDoor
open Go.Ev
set_option linter.unusedSectionVars false
variable [Go.Ev.Frozen Tryz.prog]
theorem cw0_ok : CwOK Tryz.prog cw0 := fun _ _ _ _ h => h.elim
end Go.Proofs.YthokbbichifohaaGreatDoor
end

/- Positions: what is told of Cut and Clone (what is to be shown). -/
section
set_option maxRecDepth 100000
namespace Go.Proofs.YthokbbichifohaaGreatDoor
open Go.Ev
-- keep Go.Ev.Sli PH
structure SA where
  n : Bool
  o : Nat
  l : Nat
  k : Nat
  c : List Value
structure PA where
  s1 : SA
  s2 : SA
  s3 : SA
  r0 : Int
  r1 : Int
  r2 : Int
  r3 : Int
  r4 : Int
structure PX where
  vars : List Int
  gone : List Bool
  tips : List Int
structure PH (a : PA) (x : PX) : Prop where
  p1 : Sli (Value.int .i32) 1 a.s1.n a.s1.o a.s1.l a.s1.k a.s1.c x.vars
  p2 : Sli Value.bool 1 a.s2.n a.s2.o a.s2.l a.s2.k a.s2.c x.gone
  p3 : Sli (Value.int .u8) 8 a.s3.n a.s3.o a.s3.l a.s3.k a.s3.c x.tips
set_option linter.unusedSectionVars false
variable [Go.Ev.Frozen Tryz.prog]
noncomputable section
abbrev SA.v (a : SA) (i : Nat) : Value := mnS i a.n a.o a.l a.k
def saOf (A : AW) (v : Value) : SA := ⟨(slOf v).nb, (slOf v).o, (slOf v).l, (slOf v).c, rowV A v⟩
abbrev rolls (a : PA) : List Value := [tgI .i64 a.r0, tgI .i64 a.r1, tgI .i64 a.r2, tgI .i64 a.r3, tgI .u64 a.r4]
abbrev PA.v (a : PA) (i : Nat) : Value := .agg ⟨a.s1.v i :: a.s2.v (i + 1) :: a.s3.v (i + 2) :: rolls a⟩
abbrev PA.R (a : PA) (i : Nat) (e : TypeId) : List (Nat × PO) := [(i, .f a.s1.c 21 .gro), (i + 1, .f a.s2.c 4 .gro), (i + 2, .f a.s3.c e .gro)]
def paOf (A : AW) (l : List Value) : PA := ⟨saOf A (lv l 0), saOf A (lv l 1), saOf A (lv l 2), iv (lv l 3), iv (lv l 4), iv (lv l 5), iv (lv l 6), iv (lv l 7)⟩
def paN (i : Nat) (l : List Value) : List (Nat × Nat) := renS i (lv l 0) ++ (renS (i + 1) (lv l 1) ++ renS (i + 2) (lv l 2))
def S_cut : SpecD where
  f := 6
  α := PA
  args a := [a.v 12]
  R a := a.R 12 81
  n := 12 + 3
  pre a := (∃ x, PH a x) ∧ True
  outs := [⟨Unit, fun _ _ => True, fun a _ => .agg ⟨mnS 12 a.s1.n a.s1.o (min a.s1.l 70) a.s1.k :: mnS (12 + 1) a.s2.n a.s2.o (min a.s2.l 10) a.s2.k :: mnS (12 + 2) a.s3.n a.s3.o (min a.s3.l 10) a.s3.k :: rolls a⟩, fun _ _ => [], fun _ _ => 12 + 3, fun _ _ => []⟩]
  pick _ _ := 0
  find l A := some (paOf A (agv (lv l 0)), paN 12 (agv (lv l 0)))
def G_cut (a : PA) : Prop := fnW Tryz.prog E0 cw0 [] S_cut.f (S_cut.args a) (mem (S_cut.R a) S_cut.n) (endD Tryz.prog S_cut a)
end
end Go.Proofs.YthokbbichifohaaGreatDoor
end

/- Positions: what is told of Cut and Clone is so. -/
section
set_option maxRecDepth 100000
namespace Go.Proofs.YthokbbichifohaaGreatDoor
open Go.Ev
set_option linter.unusedSectionVars false
variable [Go.Ev.Frozen Tryz.prog]
noncomputable section
def W_G_cut_0 : PA → Option AO := fun (a : PA) => Option.some (AO.row a.2.5 (4 : Nat) Md.gro)
def W_G_cut_1 : PA → Option AO := fun (a : PA) => Option.some (AO.row a.3.5 (81 : Nat) Md.gro)
end
theorem vc_cut (a : PA) : G_cut a = (∀ (x0 : Int), x0 = (↑a.1.3 : Int) → ∀ (x1 : Int), x1 = Min.min x0 (70 : Int) → (a.1.1 = Bool.true → ((0 : Int) = (0 : Int) ∧ x1 = (0 : Int)) ∧ ∀ (x2 : Int), x2 = (↑a.2.3 : Int) → ∀
(x3 : Int), x3 = Min.min x2 (10 : Int) → (a.2.1 = Bool.true → ((0 : Int) = (0 : Int) ∧ x3 = (0 : Int)) ∧ ∀ (x4 : Int), x4 = (↑a.3.3 : Int) → ∀ (x5 : Int), x5 = Min.min x4 (10 :
Int) → (a.3.1 = Bool.true → ((0 : Int) = (0 : Int) ∧ x5 = (0 : Int)) ∧ (True ∧ True ∧ True ∧ True ∧ True ∧ True ∧ True ∧ True ∧ True ∧ True ∧ True ∧ (W_G_cut_0 a = W_G_cut_0 a ∧
True) ∧ (True ∧ True) ∧ (W_G_cut_0 a = W_G_cut_0 a ∧ True) ∧ True ∧ True ∧ True ∧ True ∧ (W_G_cut_1 a = W_G_cut_1 a ∧ W_G_cut_1 a = W_G_cut_1 a ∧ True) ∧ (True ∧ True ∧ True) ∧
(W_G_cut_1 a = W_G_cut_1 a ∧ W_G_cut_1 a = W_G_cut_1 a ∧ True) ∧ True ∧ True ∧ True ∧ True ∧ True ∧ True ∧ True) ∧ ∃ (x6 : Unit), True ∧ ((a.1.1 = Bool.true ∧ Min.min a.1.3 (70 :
Nat) = (0 : Nat) ∧ a.1.4 = (0 : Nat)) ∧ (a.2.1 = Bool.true ∧ Min.min a.2.3 (10 : Nat) = (0 : Nat) ∧ a.2.4 = (0 : Nat)) ∧ (a.3.1 = Bool.true ∧ Min.min a.3.3 (10 : Nat) = (0 : Nat) ∧
a.3.4 = (0 : Nat)) ∧ a.4 = a.4 ∧ a.5 = a.5 ∧ a.6 = a.6 ∧ a.7 = a.7 ∧ a.8 = a.8 ∧ True) ∧ True) ∧ (a.3.1 = Bool.false → (((0 : Int) ≤ (0 : Int) ∧ (0 : Int) ≤ x5 ∧ x5 ≤ (↑a.3.4 :
Int)) ∧ (Bool.true = Bool.true → x5 ≤ (↑a.3.3 : Int) ∧ ((0 : Int) = (0 : Int) ∨ (0 : Int) < (↑a.3.4 : Int)))) ∧ ∀ (x7 x8 x9 : Nat), (x7 = if SA.k (PA.s3 a) = Int.toNat (0 : Int)
then a.3.2 else a.3.2 + (0 : Nat)) → x8 = Int.toNat x5 - (0 : Nat) → x9 = a.3.4 - (0 : Nat) → (True ∧ True ∧ True ∧ True ∧ True ∧ True ∧ True ∧ True ∧ True ∧ True ∧ True ∧
(W_G_cut_0 a = W_G_cut_0 a ∧ True) ∧ (True ∧ True) ∧ (W_G_cut_0 a = W_G_cut_0 a ∧ True) ∧ True ∧ True ∧ True ∧ True ∧ (W_G_cut_1 a = W_G_cut_1 a ∧ W_G_cut_1 a = W_G_cut_1 a ∧ True)
∧ (True ∧ True ∧ True) ∧ (W_G_cut_1 a = W_G_cut_1 a ∧ W_G_cut_1 a = W_G_cut_1 a ∧ True) ∧ True ∧ True ∧ True ∧ True ∧ True ∧ True ∧ True) ∧ ∃ (x10 : Unit), True ∧ ((a.1.1 =
Bool.true ∧ Min.min a.1.3 (70 : Nat) = (0 : Nat) ∧ a.1.4 = (0 : Nat)) ∧ (a.2.1 = Bool.true ∧ Min.min a.2.3 (10 : Nat) = (0 : Nat) ∧ a.2.4 = (0 : Nat)) ∧ (a.3.1 = Bool.false ∧ a.3.2
= x7 ∧ Min.min a.3.3 (10 : Nat) = x8 ∧ a.3.4 = x9) ∧ a.4 = a.4 ∧ a.5 = a.5 ∧ a.6 = a.6 ∧ a.7 = a.7 ∧ a.8 = a.8 ∧ True) ∧ True)) ∧ (a.2.1 = Bool.false → (((0 : Int) ≤ (0 : Int) ∧ (0
: Int) ≤ x3 ∧ x3 ≤ (↑a.2.4 : Int)) ∧ (Bool.true = Bool.true → x3 ≤ (↑a.2.3 : Int) ∧ ((0 : Int) = (0 : Int) ∨ (0 : Int) < (↑a.2.4 : Int)))) ∧ ∀ (x11 x12 x13 : Nat), (x11 = if SA.k
(PA.s2 a) = Int.toNat (0 : Int) then a.2.2 else a.2.2 + (0 : Nat)) → x12 = Int.toNat x3 - (0 : Nat) → x13 = a.2.4 - (0 : Nat) → ∀ (x14 : Int), x14 = (↑a.3.3 : Int) → ∀ (x15 : Int),
x15 = Min.min x14 (10 : Int) → (a.3.1 = Bool.true → ((0 : Int) = (0 : Int) ∧ x15 = (0 : Int)) ∧ (True ∧ True ∧ True ∧ True ∧ True ∧ True ∧ True ∧ True ∧ True ∧ True ∧ True ∧
(W_G_cut_0 a = W_G_cut_0 a ∧ True) ∧ (True ∧ True) ∧ (W_G_cut_0 a = W_G_cut_0 a ∧ True) ∧ True ∧ True ∧ True ∧ True ∧ (W_G_cut_1 a = W_G_cut_1 a ∧ W_G_cut_1 a = W_G_cut_1 a ∧ True)
∧ (True ∧ True ∧ True) ∧ (W_G_cut_1 a = W_G_cut_1 a ∧ W_G_cut_1 a = W_G_cut_1 a ∧ True) ∧ True ∧ True ∧ True ∧ True ∧ True ∧ True ∧ True) ∧ ∃ (x16 : Unit), True ∧ ((a.1.1 =
Bool.true ∧ Min.min a.1.3 (70 : Nat) = (0 : Nat) ∧ a.1.4 = (0 : Nat)) ∧ (a.2.1 = Bool.false ∧ a.2.2 = x11 ∧ Min.min a.2.3 (10 : Nat) = x12 ∧ a.2.4 = x13) ∧ (a.3.1 = Bool.true ∧
Min.min a.3.3 (10 : Nat) = (0 : Nat) ∧ a.3.4 = (0 : Nat)) ∧ a.4 = a.4 ∧ a.5 = a.5 ∧ a.6 = a.6 ∧ a.7 = a.7 ∧ a.8 = a.8 ∧ True) ∧ True) ∧ (a.3.1 = Bool.false → (((0 : Int) ≤ (0 :
Int) ∧ (0 : Int) ≤ x15 ∧ x15 ≤ (↑a.3.4 : Int)) ∧ (Bool.true = Bool.true → x15 ≤ (↑a.3.3 : Int) ∧ ((0 : Int) = (0 : Int) ∨ (0 : Int) < (↑a.3.4 : Int)))) ∧ ∀ (x17 x18 x19 : Nat),
(x17 = if SA.k (PA.s3 a) = Int.toNat (0 : Int) then a.3.2 else a.3.2 + (0 : Nat)) → x18 = Int.toNat x15 - (0 : Nat) → x19 = a.3.4 - (0 : Nat) → (True ∧ True ∧ True ∧ True ∧ True ∧
True ∧ True ∧ True ∧ True ∧ True ∧ True ∧ (W_G_cut_0 a = W_G_cut_0 a ∧ True) ∧ (True ∧ True) ∧ (W_G_cut_0 a = W_G_cut_0 a ∧ True) ∧ True ∧ True ∧ True ∧ True ∧ (W_G_cut_1 a =
W_G_cut_1 a ∧ W_G_cut_1 a = W_G_cut_1 a ∧ True) ∧ (True ∧ True ∧ True) ∧ (W_G_cut_1 a = W_G_cut_1 a ∧ W_G_cut_1 a = W_G_cut_1 a ∧ True) ∧ True ∧ True ∧ True ∧ True ∧ True ∧ True ∧
True) ∧ ∃ (x20 : Unit), True ∧ ((a.1.1 = Bool.true ∧ Min.min a.1.3 (70 : Nat) = (0 : Nat) ∧ a.1.4 = (0 : Nat)) ∧ (a.2.1 = Bool.false ∧ a.2.2 = x11 ∧ Min.min a.2.3 (10 : Nat) = x12
∧ a.2.4 = x13) ∧ (a.3.1 = Bool.false ∧ a.3.2 = x17 ∧ Min.min a.3.3 (10 : Nat) = x18 ∧ a.3.4 = x19) ∧ a.4 = a.4 ∧ a.5 = a.5 ∧ a.6 = a.6 ∧ a.7 = a.7 ∧ a.8 = a.8 ∧ True) ∧ True))) ∧
(a.1.1 = Bool.false → (((0 : Int) ≤ (0 : Int) ∧ (0 : Int) ≤ x1 ∧ x1 ≤ (↑a.1.4 : Int)) ∧ (Bool.true = Bool.true → x1 ≤ (↑a.1.3 : Int) ∧ ((0 : Int) = (0 : Int) ∨ (0 : Int) < (↑a.1.4
: Int)))) ∧ ∀ (x21 x22 x23 : Nat), (x21 = if SA.k (PA.s1 a) = Int.toNat (0 : Int) then a.1.2 else a.1.2 + (0 : Nat)) → x22 = Int.toNat x1 - (0 : Nat) → x23 = a.1.4 - (0 : Nat) → ∀
(x24 : Int), x24 = (↑a.2.3 : Int) → ∀ (x25 : Int), x25 = Min.min x24 (10 : Int) → (a.2.1 = Bool.true → ((0 : Int) = (0 : Int) ∧ x25 = (0 : Int)) ∧ ∀ (x26 : Int), x26 = (↑a.3.3 :
Int) → ∀ (x27 : Int), x27 = Min.min x26 (10 : Int) → (a.3.1 = Bool.true → ((0 : Int) = (0 : Int) ∧ x27 = (0 : Int)) ∧ (True ∧ True ∧ True ∧ True ∧ True ∧ True ∧ True ∧ True ∧ True
∧ True ∧ True ∧ (W_G_cut_0 a = W_G_cut_0 a ∧ True) ∧ (True ∧ True) ∧ (W_G_cut_0 a = W_G_cut_0 a ∧ True) ∧ True ∧ True ∧ True ∧ True ∧ (W_G_cut_1 a = W_G_cut_1 a ∧ W_G_cut_1 a =
W_G_cut_1 a ∧ True) ∧ (True ∧ True ∧ True) ∧ (W_G_cut_1 a = W_G_cut_1 a ∧ W_G_cut_1 a = W_G_cut_1 a ∧ True) ∧ True ∧ True ∧ True ∧ True ∧ True ∧ True ∧ True) ∧ ∃ (x28 : Unit), True
∧ ((a.1.1 = Bool.false ∧ a.1.2 = x21 ∧ Min.min a.1.3 (70 : Nat) = x22 ∧ a.1.4 = x23) ∧ (a.2.1 = Bool.true ∧ Min.min a.2.3 (10 : Nat) = (0 : Nat) ∧ a.2.4 = (0 : Nat)) ∧ (a.3.1 =
Bool.true ∧ Min.min a.3.3 (10 : Nat) = (0 : Nat) ∧ a.3.4 = (0 : Nat)) ∧ a.4 = a.4 ∧ a.5 = a.5 ∧ a.6 = a.6 ∧ a.7 = a.7 ∧ a.8 = a.8 ∧ True) ∧ True) ∧ (a.3.1 = Bool.false → (((0 :
Int) ≤ (0 : Int) ∧ (0 : Int) ≤ x27 ∧ x27 ≤ (↑a.3.4 : Int)) ∧ (Bool.true = Bool.true → x27 ≤ (↑a.3.3 : Int) ∧ ((0 : Int) = (0 : Int) ∨ (0 : Int) < (↑a.3.4 : Int)))) ∧ ∀ (x29 x30 x31
: Nat), (x29 = if SA.k (PA.s3 a) = Int.toNat (0 : Int) then a.3.2 else a.3.2 + (0 : Nat)) → x30 = Int.toNat x27 - (0 : Nat) → x31 = a.3.4 - (0 : Nat) → (True ∧ True ∧ True ∧ True ∧
True ∧ True ∧ True ∧ True ∧ True ∧ True ∧ True ∧ (W_G_cut_0 a = W_G_cut_0 a ∧ True) ∧ (True ∧ True) ∧ (W_G_cut_0 a = W_G_cut_0 a ∧ True) ∧ True ∧ True ∧ True ∧ True ∧ (W_G_cut_1 a
= W_G_cut_1 a ∧ W_G_cut_1 a = W_G_cut_1 a ∧ True) ∧ (True ∧ True ∧ True) ∧ (W_G_cut_1 a = W_G_cut_1 a ∧ W_G_cut_1 a = W_G_cut_1 a ∧ True) ∧ True ∧ True ∧ True ∧ True ∧ True ∧ True
∧ True) ∧ ∃ (x32 : Unit), True ∧ ((a.1.1 = Bool.false ∧ a.1.2 = x21 ∧ Min.min a.1.3 (70 : Nat) = x22 ∧ a.1.4 = x23) ∧ (a.2.1 = Bool.true ∧ Min.min a.2.3 (10 : Nat) = (0 : Nat) ∧
a.2.4 = (0 : Nat)) ∧ (a.3.1 = Bool.false ∧ a.3.2 = x29 ∧ Min.min a.3.3 (10 : Nat) = x30 ∧ a.3.4 = x31) ∧ a.4 = a.4 ∧ a.5 = a.5 ∧ a.6 = a.6 ∧ a.7 = a.7 ∧ a.8 = a.8 ∧ True) ∧ True))
∧ (a.2.1 = Bool.false → (((0 : Int) ≤ (0 : Int) ∧ (0 : Int) ≤ x25 ∧ x25 ≤ (↑a.2.4 : Int)) ∧ (Bool.true = Bool.true → x25 ≤ (↑a.2.3 : Int) ∧ ((0 : Int) = (0 : Int) ∨ (0 : Int) <
(↑a.2.4 : Int)))) ∧ ∀ (x33 x34 x35 : Nat), (x33 = if SA.k (PA.s2 a) = Int.toNat (0 : Int) then a.2.2 else a.2.2 + (0 : Nat)) → x34 = Int.toNat x25 - (0 : Nat) → x35 = a.2.4 - (0 :
Nat) → ∀ (x36 : Int), x36 = (↑a.3.3 : Int) → ∀ (x37 : Int), x37 = Min.min x36 (10 : Int) → (a.3.1 = Bool.true → ((0 : Int) = (0 : Int) ∧ x37 = (0 : Int)) ∧ (True ∧ True ∧ True ∧
True ∧ True ∧ True ∧ True ∧ True ∧ True ∧ True ∧ True ∧ (W_G_cut_0 a = W_G_cut_0 a ∧ True) ∧ (True ∧ True) ∧ (W_G_cut_0 a = W_G_cut_0 a ∧ True) ∧ True ∧ True ∧ True ∧ True ∧
(W_G_cut_1 a = W_G_cut_1 a ∧ W_G_cut_1 a = W_G_cut_1 a ∧ True) ∧ (True ∧ True ∧ True) ∧ (W_G_cut_1 a = W_G_cut_1 a ∧ W_G_cut_1 a = W_G_cut_1 a ∧ True) ∧ True ∧ True ∧ True ∧ True ∧
True ∧ True ∧ True) ∧ ∃ (x38 : Unit), True ∧ ((a.1.1 = Bool.false ∧ a.1.2 = x21 ∧ Min.min a.1.3 (70 : Nat) = x22 ∧ a.1.4 = x23) ∧ (a.2.1 = Bool.false ∧ a.2.2 = x33 ∧ Min.min a.2.3
(10 : Nat) = x34 ∧ a.2.4 = x35) ∧ (a.3.1 = Bool.true ∧ Min.min a.3.3 (10 : Nat) = (0 : Nat) ∧ a.3.4 = (0 : Nat)) ∧ a.4 = a.4 ∧ a.5 = a.5 ∧ a.6 = a.6 ∧ a.7 = a.7 ∧ a.8 = a.8 ∧ True)
∧ True) ∧ (a.3.1 = Bool.false → (((0 : Int) ≤ (0 : Int) ∧ (0 : Int) ≤ x37 ∧ x37 ≤ (↑a.3.4 : Int)) ∧ (Bool.true = Bool.true → x37 ≤ (↑a.3.3 : Int) ∧ ((0 : Int) = (0 : Int) ∨ (0 :
Int) < (↑a.3.4 : Int)))) ∧ ∀ (x39 x40 x41 : Nat), (x39 = if SA.k (PA.s3 a) = Int.toNat (0 : Int) then a.3.2 else a.3.2 + (0 : Nat)) → x40 = Int.toNat x37 - (0 : Nat) → x41 = a.3.4
- (0 : Nat) → (True ∧ True ∧ True ∧ True ∧ True ∧ True ∧ True ∧ True ∧ True ∧ True ∧ True ∧ (W_G_cut_0 a = W_G_cut_0 a ∧ True) ∧ (True ∧ True) ∧ (W_G_cut_0 a = W_G_cut_0 a ∧ True)
∧ True ∧ True ∧ True ∧ True ∧ (W_G_cut_1 a = W_G_cut_1 a ∧ W_G_cut_1 a = W_G_cut_1 a ∧ True) ∧ (True ∧ True ∧ True) ∧ (W_G_cut_1 a = W_G_cut_1 a ∧ W_G_cut_1 a = W_G_cut_1 a ∧ True)
∧ True ∧ True ∧ True ∧ True ∧ True ∧ True ∧ True) ∧ ∃ (x42 : Unit), True ∧ ((a.1.1 = Bool.false ∧ a.1.2 = x21 ∧ Min.min a.1.3 (70 : Nat) = x22 ∧ a.1.4 = x23) ∧ (a.2.1 = Bool.false
∧ a.2.2 = x33 ∧ Min.min a.2.3 (10 : Nat) = x34 ∧ a.2.4 = x35) ∧ (a.3.1 = Bool.false ∧ a.3.2 = x39 ∧ Min.min a.3.3 (10 : Nat) = x40 ∧ a.3.4 = x41) ∧ a.4 = a.4 ∧ a.5 = a.5 ∧ a.6 =
a.6 ∧ a.7 = a.7 ∧ a.8 = a.8 ∧ True) ∧ True)))) := by kernel_rfl
theorem g_cut (a : PA) (hp : ∃ x, PH a x) : G_cut a := by
  obtain ⟨x, hx⟩ := hp
  have n1 := hx.p1.nil
  have n2 := hx.p2.nil
  have n3 := hx.p3.nil
  have k1 := hx.p1.cap
  have k2 := hx.p2.cap
  have k3 := hx.p3.cap
  rw [vc_cut]
  repeat' first
    | with_reducible apply And.intro
    | intro _
    | with_reducible refine Exists.intro () ?_
    | exact trivial
    | exact rfl
  all_goals
    (try have e1 := n1 (by assumption))
    (try have e2 := n2 (by assumption))
    (try have e3 := n3 (by assumption))
    first
      | assumption
      | omega
      | (subst_vars; simp; done)
theorem s_cut : SpecOK Tryz.prog S_cut.spec := fun a => specD_at (an := []) envOK cw0_ok fun hp => g_cut a hp.1
end Go.Proofs.YthokbbichifohaaGreatDoor
end

/- Functions that are run as they are; calls that were reckoned ahead. -/
section
set_option maxRecDepth 100000
namespace Go.Proofs.YthokbbichifohaaGreatDoor
open Go.Ev
set_option linter.unusedSectionVars false
variable [Go.Ev.Frozen Tryz.prog]
noncomputable section
def cwX0 : CW := fun _ _ _ _ => False
def cwX (s : CW → CW) : Nat → CW
  | 0 => cwX0
  | n + 1 => s fun f args A K => fnW Tryz.prog E0 (cwX s n) [] f args A K
def cwHk (h : Hook) (c : CW) : CW := fun f args A K => Bool.rec (c f args A K) (cpo (hookCall h noCall f args A) fun p => K p.1 p.2) (Nat.beq f h.f)
end
theorem cwX0_ok : CwOK Tryz.prog cwX0 := fun _ _ _ _ h => h.elim
theorem cwX_ok {s : CW → CW} (hs : ∀ cw, CwOK Tryz.prog cw → CwOK Tryz.prog (s cw)) : ∀ n, CwOK Tryz.prog (cwX s n) := by
  intro n
  induction n with
  | zero => exact cwX0_ok
  | succ n ih => exact hs _ (cw_fn envOK ih)
theorem cwHk_ok {h : Hook} {c : CW} (hh : HookOK Tryz.prog (hookCall h)) (hc : CwOK Tryz.prog c) : CwOK Tryz.prog (cwHk h c) := fun f args A K hk => by
  have hk : (Bool.rec (c f args A K) (cpo (hookCall h noCall f args A) fun p => K p.1 p.2) (Nat.beq f h.f) : Prop) := hk
  cases hb : Nat.beq f h.f with
  | false => rw [hb] at hk; exact hc f args A K hk
  | true => rw [hb] at hk; exact cw_call (hh _ noCall_ok) f args A K hk
end Go.Proofs.YthokbbichifohaaGreatDoor
end

/- The evaluator: what a contract by hand tells of a call. -/
section
set_option linter.unusedSectionVars false
namespace Go.Ev
open Go.RowKit (Below)
variable {P : Program} [Frozen P] {σ : Sg} {A : AW} {w w1 : World}
theorem serves_upd {E : Env} (hE : EnvOK P E) {f : FuncId} {fn : Func} {c : Code} (hf : P.funcs[f]? = some fn) (hb : fn.body = some c) {args' : List Value} {v v' : Value} {A' : AW} (hU : Rel P σ A' w1 ∧ Step σ A w σ A' w1) (hv : VR σ v v')
    (h : Calls P f ⟨args'⟩ w fun e w' => e = .returned v' ∧ Below w1.heap.size w1 w') : Serves P σ A w ((callFunc f ⟨args'⟩).run P w) v A' :=
  .inr ⟨f, ⟨args'⟩, entered (hE.name f fn hf) hf hb ⟨args'⟩ w, Calls.mono h fun e w' he => by
    obtain ⟨rfl, hb⟩ := he
    exact ⟨σ, hv, (hU.1.below hb).1, hU.2.trans (hU.1.below hb).2⟩⟩
end Go.Ev
end
