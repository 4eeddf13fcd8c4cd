/- The law of reads: what is to be shown. -/
import Derived.Test.YtalbjjimnhldfaaGreatDoorYdcQ
import Derived.Test.YtalbjjimnhldfaaGreatDoorYdmP
import Derived.Test.YtalbjjimnhldfaaGreatDoorYep
import Derived.Test.YtalbjjimnhldfaaGreatDoorYof
import Derived.Test.YtalbjjimnhldfaaGreatDoorYml
import Derived.Test.YtalbjjimnhldfaaGreatDoorYsb
import Derived.Test.YtalbjjimnhldfaaGreatDoorYrl0
section
set_option maxRecDepth 100000
namespace Go.Proofs.YtalbjjimnhldfaaGreatDoor
open Go.Ev
-- keep rdC rsC wdC wsC dvC dWC dgC dGC dtC dTC r0C r1C r2C r3C r4C endC unfI lookN valN lead RI q2C tipsL goneL num foldI dnum frm Go.Ev.Sli Byts8 decM decP OwB LC LF encM encV MH PH PW isP isM goneL tipsL enc cells0 cells1 cells2 cells4 cells5 cells6 cells8 cells9 cells10
/-- What both Decodes give. -/
structure isP (xs : List Int) (p : PR) (e : Int) : Prop where
  er : e = (decP xs).e
  ok : e = 0 → (LC p.v (decP xs).v ∧ LF Value.bool 1 p.g (decP xs).g ∧ LF (Value.int .u8) 8 p.t (decP xs).t) ∧ p.r0 = (decP xs).r0 ∧ p.r1 = (decP xs).r1 ∧ p.r2 = (decP xs).r2 ∧ p.r3 = (decP xs).r3 ∧ p.r4 = (decP xs).r4
  no : e ≠ 0 → p = ⟨⟨true, 0, 0, []⟩, ⟨true, 0, 0, []⟩, ⟨true, 0, 0, []⟩, 0, 0, 0, 0, 0⟩
/-- What both DecodeMoves give. -/
structure isM (xs : List Int) (m : MR) (e : Int) : Prop where
  er : e = (decM xs).e
  ok : e = 0 → LC m.s (decM xs).xs ∧ m.t = (decM xs).t ∧ m.d = (decM xs).d
  no : e ≠ 0 → m = ⟨false, ⟨true, 0, 0, []⟩, d80⟩
structure E1 where
  p : PR
  e : Int
structure E2 where
  p : PR
  e : Int
  q : PR
  f : Int
structure E3 where
  p : PR
  e : Int
  q : PR
  f : Int
  m : MR
  g : Int
structure E4 where
  p : PR
  e : Int
  q : PR
  f : Int
  m : MR
  g : Int
  k : MR
  h : Int
noncomputable section
def paK {β : Type} (A : AW) (i : Nat) (l : List Value) (k : PA → List (Nat × Nat) → Option β) : Option β := saK A i (lv l 0) fun s1 q1 => saK A (i + 1) (lv l 1) fun s2 q2 => saK A (i + 2) (lv l 2) fun s3 q3 => wI (lv l 3) fun r0 => wI (lv l 4) fun r1 => wI (lv l 5) fun r2 => wI (lv l 6) fun r3 => wI (lv l 7) fun r4 => k ⟨s1, s2, s3, r0, r1, r2, r3, r4⟩ (q1 ++ (q2 ++ q3))
def T_of : SpecD := { S_of with find := fun l A => paK A 12 (agv (lv l 0)) fun (a : PA) r => some (a, r) }
def T_encP : SpecD := { S_encP with find := fun l A => paK A 12 (agv (lv l 0)) fun (a : PA) r => some (a, r) }
def T_same17 : SpecD := { S_same17 with find := fun l A => paK A 12 (agv (lv l 0)) fun a r => paK A (12 + 3) (agv (lv l 1)) fun b q => some ((⟨a, b⟩ : P2), r ++ q) }
abbrev bS (a : SA) : Nat × Value := (0, mnS 12 a.n a.o (min a.l 300) a.k)
abbrev MR.w (m : MR) (i : Nat) : List Value := tg (.bool m.t) :: m.s.v i :: m.d.c
abbrev pR1 (p : PR) (i : Nat) : List (Nat × PO) := [(i, .p (.row (p.w (i + 1)) 37 .own)), (i + 1, .f p.v.c 21 (.grown p.v.k)), (i + 2, .f p.g.c 4 (.grown p.g.k)), (i + 3, .f p.t.c 29 (.grown p.t.k))]
abbrev pR2 (p : PR) (i : Nat) : List (Nat × PO) := [(i, .p (.row (p.w (i + 1)) 66 .own)), (i + 1, .f p.v.c 21 (.grown p.v.k)), (i + 2, .f p.g.c 4 (.grown p.g.k)), (i + 3, .f p.t.c 28 (.grown p.t.k))]
abbrev mR1 (m : MR) (i : Nat) (t : TypeId) : List (Nat × PO) := [(i, .p (.row (m.w (i + 1)) t .own)), (i + 1, .f m.s.c 21 (.grown m.s.k))]
def pN (s : St) (t i : Nat) : List (Nat × Nat) := renP i (tv s t) ++ paN (i + 1) (rowO s.A (ptB (tv s t)))
def mN (s : St) (t i : Nat) : List (Nat × Nat) := renP i (tv s t) ++ renS (i + 1) (lv (rowO s.A (ptB (tv s t))) 1)
abbrev ptr (i : Nat) : Value := .pointer (some ⟨i, 0, none⟩)
def j_r0 (a : SA) : JA where
  β := Unit
  at_ _ := ⟨[bS a], (12, .f a.c 5 .ro) :: globR, 12 + 1⟩
  J _ := True
  ren _ := []
def j_r1 (a : SA) (xs : List Int) : JA where
  β := E1
  at_ b := ⟨[bS a, (3, ptr (12 + 1)), (4, tgI .i64 b.e)], (12, .f a.c 5 .ro) :: (pR1 b.p (12 + 1) ++ globR), 12 + 5⟩
  J b := isP xs b.p b.e
  ren s := pN s 3 (12 + 1)
def j_r2 (a : SA) (xs : List Int) : JA where
  β := E2
  at_ b := ⟨[bS a, (3, ptr (12 + 1)), (4, tgI .i64 b.e), (5, ptr (12 + 5)), (6, tgI .i64 b.f)], (12, .f a.c 5 .ro) :: (pR1 b.p (12 + 1) ++ (pR2 b.q (12 + 5) ++ globR)), 12 + 9⟩
  J b := isP xs b.p b.e ∧ isP xs b.q b.f
  ren s := pN s 3 (12 + 1) ++ pN s 5 (12 + 5)
def j_r3 (a : SA) (xs : List Int) : JA where
  β := E3
  at_ b := ⟨[bS a, (3, ptr (12 + 1)), (4, tgI .i64 b.e), (5, ptr (12 + 5)), (6, tgI .i64 b.f), (7, ptr (12 + 9)), (8, tgI .i64 b.g)], (12, .f a.c 5 .ro) :: (pR1 b.p (12 + 1) ++ (pR2 b.q (12 + 5) ++ (mR1 b.m (12 + 9) 43 ++ globR))), 12 + 11⟩
  J b := isP xs b.p b.e ∧ isP xs b.q b.f ∧ isM xs b.m b.g
  ren s := pN s 3 (12 + 1) ++ (pN s 5 (12 + 5) ++ mN s 7 (12 + 9))
def j_r4 (a : SA) (xs : List Int) : JA where
  β := E4
  at_ b := ⟨[bS a, (3, ptr (12 + 1)), (4, tgI .i64 b.e), (5, ptr (12 + 5)), (6, tgI .i64 b.f), (7, ptr (12 + 9)), (8, tgI .i64 b.g), (9, ptr (12 + 11)), (10, tgI .i64 b.h)], (12, .f a.c 5 .ro) :: (pR1 b.p (12 + 1) ++ (pR2 b.q (12 + 5) ++ (mR1 b.m (12 + 9) 43 ++ (mR1 b.k (12 + 11) 52 ++ globR)))), 12 + 13⟩
  J b := isP xs b.p b.e ∧ isP xs b.q b.f ∧ isM xs b.m b.g ∧ isM xs b.k b.h
  ren s := pN s 3 (12 + 1) ++ (pN s 5 (12 + 5) ++ (mN s 7 (12 + 9) ++ mN s 9 (12 + 11)))
def S_reads : SpecD where
  f := 6
  α := SA
  args a := [a.v 12]
  R a := (12, .f a.c 5 .ro) :: globR
  n := 12 + 1
  pre a := ∃ xs, Sli (Value.int .u8) 1 a.n a.o a.l a.k a.c xs ∧ Byts8 xs
  outs := [⟨Unit, fun _ _ => True, fun _ _ => .bool true, fun _ _ => [], fun _ _ => 12 + 1, fun _ _ => []⟩]
  pick _ _ := 0
  find l A := saK A 12 (lv l 0) fun s r => some (s, r)
def cwReads : CW := cwD Tryz.prog S_decP (cwD Tryz.prog S_decP2 (cwD Tryz.prog S_decM (cwD Tryz.prog S_decM2 (cwD Tryz.prog T_of (cwD Tryz.prog T_same17 (cwD Tryz.prog T_encP (cwD Tryz.prog S_encM (cwD Tryz.prog S_encM2 (cwD Tryz.prog S_sameB (cwD Tryz.prog S_known cw0))))))))))
def G_reads (a : SA) (xs : List Int) : Prop := fnW Tryz.prog E0 cwReads [some (joins [(2, j_r0 a), (3, j_r1 a xs), (4, j_r2 a xs), (5, j_r3 a xs), (6, j_r4 a xs)])] S_reads.f (S_reads.args a) (mem (S_reads.R a) S_reads.n) (endD Tryz.prog S_reads a)
end
end Go.Proofs.YtalbjjimnhldfaaGreatDoor
end

/- The law of reads: it is so. -/
set_option maxRecDepth 100000
namespace Go.Proofs.YtalbjjimnhldfaaGreatDoor
open Go.Ev
noncomputable section
def W_G_reads_0 : E4 → Option AO := fun (x41 : E4) => Option.some (AO.row [Value.iface (1000000009 : Nat) (Value.agg (Array.mk [Value.bool x41.3.1.1, Value.slice (Option.some (Addr.mk (18 : Nat) (0 : Nat)
Option.none)) x41.3.1.2 x41.3.1.3])), Value.iface (1000000009 : Nat) (Value.agg (Array.mk [Value.bool x41.3.2.1, Value.slice (Option.some (Addr.mk (19 : Nat) (0 : Nat)
Option.none)) x41.3.2.2 x41.3.2.3])), Value.iface (1000000009 : Nat) (Value.agg (Array.mk [Value.bool x41.3.3.1, Value.slice (Option.some (Addr.mk (20 : Nat) (0 : Nat)
Option.none)) x41.3.3.2 x41.3.3.3])), Value.iface (1000000007 : Nat) (Value.int IntKind.i64 x41.3.4), Value.iface (1000000007 : Nat) (Value.int IntKind.i64 x41.3.5), Value.iface
(1000000007 : Nat) (Value.int IntKind.i64 x41.3.6), Value.iface (1000000007 : Nat) (Value.int IntKind.i64 x41.3.7), Value.iface (1000000007 : Nat) (Value.int IntKind.u64 x41.3.8)]
(66 : Nat) Md.own)
def W_G_reads_1 : E4 → Option AO := fun (x41 : E4) => Option.some (AO.row [Value.iface (1000000007 : Nat) (Value.bool x41.7.1), Value.iface (1000000009 : Nat) (Value.agg (Array.mk [Value.bool x41.7.2.1, Value.slice
(Option.some (Addr.mk (24 : Nat) (0 : Nat) Option.none)) x41.7.2.2 x41.7.2.3])), Value.iface (1000000007 : Nat) (Value.int IntKind.u8 x41.7.3.1), Value.iface (1000000007 : Nat)
(Value.int IntKind.u8 x41.7.3.2), Value.iface (1000000007 : Nat) (Value.int IntKind.u8 x41.7.3.3), Value.iface (1000000007 : Nat) (Value.int IntKind.u8 x41.7.3.4), Value.iface
(1000000007 : Nat) (Value.int IntKind.u8 x41.7.3.5), Value.iface (1000000007 : Nat) (Value.int IntKind.u8 x41.7.3.6), Value.iface (1000000007 : Nat) (Value.int IntKind.u8
x41.7.3.7), Value.iface (1000000007 : Nat) (Value.int IntKind.u8 x41.7.3.8)] (52 : Nat) Md.own)
end
theorem vc_reads (a : SA) (xs : List Int) : G_reads a xs = ((∀ (x0 : Int), x0 = (↑a.3 : Int) → ∀ (x1 : Int), x1 = Min.min x0 (300 : Int) → (a.1 = Bool.true → ((0 : Int) = (0 : Int) ∧ x1 = (0 : Int)) ∧ ∃ (x2 : Unit), True ∧ ((a.1 = Bool.true
∧ Min.min a.3 (300 : Nat) = (0 : Nat) ∧ a.4 = (0 : Nat)) ∧ True) ∧ ((True ∧ FlatL a.5 ∧ a.5 = a.5) ∧ (True ∧ FlatL cells0 ∧ cells0 = cells0) ∧ (True ∧ FlatL cells1 ∧ cells1 =
cells1) ∧ (True ∧ FlatL cells2 ∧ cells2 = cells2) ∧ (True ∧ FlatL cells4 ∧ cells4 = cells4) ∧ (True ∧ FlatL cells5 ∧ cells5 = cells5) ∧ (True ∧ FlatL cells6 ∧ cells6 = cells6) ∧
(True ∧ FlatL cells8 ∧ cells8 = cells8) ∧ (True ∧ FlatL cells9 ∧ cells9 = cells9) ∧ (True ∧ FlatL cells10 ∧ cells10 = cells10) ∧ True) ∧ True) ∧ (a.1 = Bool.false → (((0 : Int) ≤
(0 : Int) ∧ (0 : Int) ≤ x1 ∧ x1 ≤ (↑a.4 : Int)) ∧ (Bool.false = Bool.true → x1 ≤ (↑a.3 : Int) ∧ ((0 : Int) = (0 : Int) ∨ (0 : Int) < (↑a.4 : Int)))) ∧ ∀ (x3 x4 x5 : Nat), (x3 = if
SA.k a = Int.toNat (0 : Int) then a.2 else a.2 + (0 : Nat)) → x4 = Int.toNat x1 - (0 : Nat) → x5 = a.4 - (0 : Nat) → ∃ (x6 : Unit), True ∧ ((a.1 = Bool.false ∧ a.2 = x3 ∧ Min.min
a.3 (300 : Nat) = x4 ∧ a.4 = x5) ∧ True) ∧ ((True ∧ FlatL a.5 ∧ a.5 = a.5) ∧ (True ∧ FlatL cells0 ∧ cells0 = cells0) ∧ (True ∧ FlatL cells1 ∧ cells1 = cells1) ∧ (True ∧ FlatL
cells2 ∧ cells2 = cells2) ∧ (True ∧ FlatL cells4 ∧ cells4 = cells4) ∧ (True ∧ FlatL cells5 ∧ cells5 = cells5) ∧ (True ∧ FlatL cells6 ∧ cells6 = cells6) ∧ (True ∧ FlatL cells8 ∧
cells8 = cells8) ∧ (True ∧ FlatL cells9 ∧ cells9 = cells9) ∧ (True ∧ FlatL cells10 ∧ cells10 = cells10) ∧ True) ∧ True)) ∧ ∀ (x7 : Unit), True → ((True ∧ (∃ (x8 : List Int), Sli
(Value.int IntKind.u8) (1 : Nat) a.1 a.2 (Min.min a.3 (300 : Nat)) a.4 a.5 x8 ∧ Byts8 x8) ∧ Min.min a.3 (300 : Nat) ≤ (100000 : Nat)) ∧ (((a.1 = a.1 ∧ a.2 = a.2 ∧ Min.min a.3 (300
: Nat) = Min.min a.3 (300 : Nat) ∧ a.4 = a.4) ∧ True) ∧ (True ∧ FlatL a.5 ∧ a.5 = a.5) ∧ True) ∧ (∀ (x9 : PR), (∀ (x10 : List Int), Sli (Value.int IntKind.u8) (1 : Nat) a.1 a.2
(Min.min a.3 (300 : Nat)) a.4 a.5 x10 → endC x10 (r4C x10).1 (r4C x10).2 = (0 : Int) ∧ (LC x9.1 (dWC x10).3 ∧ LF Value.bool (1 : Nat) x9.2 (goneL (dGC x10).3) ∧ LF (Value.int
IntKind.u8) (8 : Nat) x9.3 (tipsL (dTC x10).3)) ∧ x9.4 = unfI (r0C x10).3 ∧ x9.5 = unfI (r1C x10).3 ∧ x9.6 = unfI (r2C x10).3 ∧ x9.7 = unfI (r3C x10).3 ∧ x9.8 = (r4C x10).3) → ∃
(x11 : E1), isP xs x11.1 x11.2 ∧ ((a.1 = a.1 ∧ a.2 = a.2 ∧ Min.min a.3 (300 : Nat) = Min.min a.3 (300 : Nat) ∧ a.4 = a.4) ∧ (0 : Nat) = (0 : Nat) ∧ x11.2 = (0 : Int) ∧ True) ∧
((True ∧ FlatL a.5 ∧ a.5 = a.5) ∧ (True ∧ (x11.1.1.1 = x9.1.1 ∧ (0 : Nat) = (0 : Nat) ∧ x11.1.1.2 = x9.1.2 ∧ x11.1.1.3 = x9.1.3) ∧ (x11.1.2.1 = x9.2.1 ∧ (0 : Nat) = (0 : Nat) ∧
x11.1.2.2 = x9.2.2 ∧ x11.1.2.3 = x9.2.3) ∧ (x11.1.3.1 = x9.3.1 ∧ (0 : Nat) = (0 : Nat) ∧ x11.1.3.2 = x9.3.2 ∧ x11.1.3.3 = x9.3.3) ∧ x11.1.4 = x9.4 ∧ x11.1.5 = x9.5 ∧ x11.1.6 = x9.6
∧ x11.1.7 = x9.7 ∧ x11.1.8 = x9.8 ∧ True) ∧ (x11.1.1.3 = x9.1.3 ∧ FlatL x11.1.1.4 ∧ x11.1.1.4 = x9.1.4) ∧ (x11.1.2.3 = x9.2.3 ∧ FlatL x11.1.2.4 ∧ x11.1.2.4 = x9.2.4) ∧ (x11.1.3.3 =
x9.3.3 ∧ FlatL x11.1.3.4 ∧ x11.1.3.4 = x9.3.4) ∧ (True ∧ FlatL cells0 ∧ cells0 = cells0) ∧ (True ∧ FlatL cells1 ∧ cells1 = cells1) ∧ (True ∧ FlatL cells2 ∧ cells2 = cells2) ∧ (True
∧ FlatL cells4 ∧ cells4 = cells4) ∧ (True ∧ FlatL cells5 ∧ cells5 = cells5) ∧ (True ∧ FlatL cells6 ∧ cells6 = cells6) ∧ (True ∧ FlatL cells8 ∧ cells8 = cells8) ∧ (True ∧ FlatL
cells9 ∧ cells9 = cells9) ∧ (True ∧ FlatL cells10 ∧ cells10 = cells10) ∧ True) ∧ True) ∧ (∀ (x12 : EE), (x12.1 ≠ (0 : Int) ∧ ∀ (x13 : List Int), Sli (Value.int IntKind.u8) (1 :
Nat) a.1 a.2 (Min.min a.3 (300 : Nat)) a.4 a.5 x13 → endC x13 (r4C x13).1 (r4C x13).2 = x12.1) → ∃ (x14 : E1), isP xs x14.1 x14.2 ∧ ((a.1 = a.1 ∧ a.2 = a.2 ∧ Min.min a.3 (300 :
Nat) = Min.min a.3 (300 : Nat) ∧ a.4 = a.4) ∧ (0 : Nat) = (0 : Nat) ∧ x14.2 = x12.1 ∧ True) ∧ ((True ∧ FlatL a.5 ∧ a.5 = a.5) ∧ (True ∧ (x14.1.1.1 = Bool.true ∧ x14.1.1.2 = (0 :
Nat) ∧ x14.1.1.3 = (0 : Nat)) ∧ (x14.1.2.1 = Bool.true ∧ x14.1.2.2 = (0 : Nat) ∧ x14.1.2.3 = (0 : Nat)) ∧ (x14.1.3.1 = Bool.true ∧ x14.1.3.2 = (0 : Nat) ∧ x14.1.3.3 = (0 : Nat)) ∧
x14.1.4 = (0 : Int) ∧ x14.1.5 = (0 : Int) ∧ x14.1.6 = (0 : Int) ∧ x14.1.7 = (0 : Int) ∧ x14.1.8 = (0 : Int) ∧ True) ∧ (FlatL x14.1.1.4 ∧ True) ∧ (FlatL x14.1.2.4 ∧ True) ∧ (FlatL
x14.1.3.4 ∧ True) ∧ (True ∧ FlatL cells0 ∧ cells0 = cells0) ∧ (True ∧ FlatL cells1 ∧ cells1 = cells1) ∧ (True ∧ FlatL cells2 ∧ cells2 = cells2) ∧ (True ∧ FlatL cells4 ∧ cells4 =
cells4) ∧ (True ∧ FlatL cells5 ∧ cells5 = cells5) ∧ (True ∧ FlatL cells6 ∧ cells6 = cells6) ∧ (True ∧ FlatL cells8 ∧ cells8 = cells8) ∧ (True ∧ FlatL cells9 ∧ cells9 = cells9) ∧
(True ∧ FlatL cells10 ∧ cells10 = cells10) ∧ True) ∧ True) ∧ True) ∧ ∀ (x15 : E1), isP xs x15.1 x15.2 → ((True ∧ (∃ (x16 : List Int), Sli (Value.int IntKind.u8) (1 : Nat) a.1 a.2
(Min.min a.3 (300 : Nat)) a.4 a.5 x16 ∧ Byts8 x16) ∧ Min.min a.3 (300 : Nat) ≤ (100000 : Nat)) ∧ (((a.1 = a.1 ∧ a.2 = a.2 ∧ Min.min a.3 (300 : Nat) = Min.min a.3 (300 : Nat) ∧ a.4
= a.4) ∧ True) ∧ (True ∧ FlatL a.5 ∧ a.5 = a.5) ∧ True) ∧ (∀ (x17 : PR), (∀ (x18 : List Int), Sli (Value.int IntKind.u8) (1 : Nat) a.1 a.2 (Min.min a.3 (300 : Nat)) a.4 a.5 x18 →
endC x18 (r4C x18).1 (r4C x18).2 = (0 : Int) ∧ (LC x17.1 (dWC x18).3 ∧ LF Value.bool (1 : Nat) x17.2 (goneL (dGC x18).3) ∧ LF (Value.int IntKind.u8) (8 : Nat) x17.3 (tipsL (dTC
x18).3)) ∧ x17.4 = unfI (r0C x18).3 ∧ x17.5 = unfI (r1C x18).3 ∧ x17.6 = unfI (r2C x18).3 ∧ x17.7 = unfI (r3C x18).3 ∧ x17.8 = (r4C x18).3) → ∃ (x19 : E2), (isP xs x19.1 x19.2 ∧
isP xs x19.3 x19.4) ∧ ((a.1 = a.1 ∧ a.2 = a.2 ∧ Min.min a.3 (300 : Nat) = Min.min a.3 (300 : Nat) ∧ a.4 = a.4) ∧ (0 : Nat) = (0 : Nat) ∧ x19.2 = x15.2 ∧ (0 : Nat) = (0 : Nat) ∧
x19.4 = (0 : Int) ∧ True) ∧ ((True ∧ FlatL a.5 ∧ a.5 = a.5) ∧ (True ∧ (x19.1.1.1 = x15.1.1.1 ∧ (0 : Nat) = (0 : Nat) ∧ x19.1.1.2 = x15.1.1.2 ∧ x19.1.1.3 = x15.1.1.3) ∧ (x19.1.2.1 =
x15.1.2.1 ∧ (0 : Nat) = (0 : Nat) ∧ x19.1.2.2 = x15.1.2.2 ∧ x19.1.2.3 = x15.1.2.3) ∧ (x19.1.3.1 = x15.1.3.1 ∧ (0 : Nat) = (0 : Nat) ∧ x19.1.3.2 = x15.1.3.2 ∧ x19.1.3.3 = x15.1.3.3)
∧ x19.1.4 = x15.1.4 ∧ x19.1.5 = x15.1.5 ∧ x19.1.6 = x15.1.6 ∧ x19.1.7 = x15.1.7 ∧ x19.1.8 = x15.1.8 ∧ True) ∧ (x19.1.1.3 = x15.1.1.3 ∧ FlatL x19.1.1.4 ∧ x19.1.1.4 = x15.1.1.4) ∧
(x19.1.2.3 = x15.1.2.3 ∧ FlatL x19.1.2.4 ∧ x19.1.2.4 = x15.1.2.4) ∧ (x19.1.3.3 = x15.1.3.3 ∧ FlatL x19.1.3.4 ∧ x19.1.3.4 = x15.1.3.4) ∧ (True ∧ (x19.3.1.1 = x17.1.1 ∧ (0 : Nat) =
(0 : Nat) ∧ x19.3.1.2 = x17.1.2 ∧ x19.3.1.3 = x17.1.3) ∧ (x19.3.2.1 = x17.2.1 ∧ (0 : Nat) = (0 : Nat) ∧ x19.3.2.2 = x17.2.2 ∧ x19.3.2.3 = x17.2.3) ∧ (x19.3.3.1 = x17.3.1 ∧ (0 :
Nat) = (0 : Nat) ∧ x19.3.3.2 = x17.3.2 ∧ x19.3.3.3 = x17.3.3) ∧ x19.3.4 = x17.4 ∧ x19.3.5 = x17.5 ∧ x19.3.6 = x17.6 ∧ x19.3.7 = x17.7 ∧ x19.3.8 = x17.8 ∧ True) ∧ (x19.3.1.3 =
x17.1.3 ∧ FlatL x19.3.1.4 ∧ x19.3.1.4 = x17.1.4) ∧ (x19.3.2.3 = x17.2.3 ∧ FlatL x19.3.2.4 ∧ x19.3.2.4 = x17.2.4) ∧ (x19.3.3.3 = x17.3.3 ∧ FlatL x19.3.3.4 ∧ x19.3.3.4 = x17.3.4) ∧
(True ∧ FlatL cells0 ∧ cells0 = cells0) ∧ (True ∧ FlatL cells1 ∧ cells1 = cells1) ∧ (True ∧ FlatL cells2 ∧ cells2 = cells2) ∧ (True ∧ FlatL cells4 ∧ cells4 = cells4) ∧ (True ∧
FlatL cells5 ∧ cells5 = cells5) ∧ (True ∧ FlatL cells6 ∧ cells6 = cells6) ∧ (True ∧ FlatL cells8 ∧ cells8 = cells8) ∧ (True ∧ FlatL cells9 ∧ cells9 = cells9) ∧ (True ∧ FlatL
cells10 ∧ cells10 = cells10) ∧ True) ∧ True) ∧ (∀ (x20 : EE), (x20.1 ≠ (0 : Int) ∧ ∀ (x21 : List Int), Sli (Value.int IntKind.u8) (1 : Nat) a.1 a.2 (Min.min a.3 (300 : Nat)) a.4
a.5 x21 → endC x21 (r4C x21).1 (r4C x21).2 = x20.1) → ∃ (x22 : E2), (isP xs x22.1 x22.2 ∧ isP xs x22.3 x22.4) ∧ ((a.1 = a.1 ∧ a.2 = a.2 ∧ Min.min a.3 (300 : Nat) = Min.min a.3 (300
: Nat) ∧ a.4 = a.4) ∧ (0 : Nat) = (0 : Nat) ∧ x22.2 = x15.2 ∧ (0 : Nat) = (0 : Nat) ∧ x22.4 = x20.1 ∧ True) ∧ ((True ∧ FlatL a.5 ∧ a.5 = a.5) ∧ (True ∧ (x22.1.1.1 = x15.1.1.1 ∧ (0
: Nat) = (0 : Nat) ∧ x22.1.1.2 = x15.1.1.2 ∧ x22.1.1.3 = x15.1.1.3) ∧ (x22.1.2.1 = x15.1.2.1 ∧ (0 : Nat) = (0 : Nat) ∧ x22.1.2.2 = x15.1.2.2 ∧ x22.1.2.3 = x15.1.2.3) ∧ (x22.1.3.1 =
x15.1.3.1 ∧ (0 : Nat) = (0 : Nat) ∧ x22.1.3.2 = x15.1.3.2 ∧ x22.1.3.3 = x15.1.3.3) ∧ x22.1.4 = x15.1.4 ∧ x22.1.5 = x15.1.5 ∧ x22.1.6 = x15.1.6 ∧ x22.1.7 = x15.1.7 ∧ x22.1.8 =
x15.1.8 ∧ True) ∧ (x22.1.1.3 = x15.1.1.3 ∧ FlatL x22.1.1.4 ∧ x22.1.1.4 = x15.1.1.4) ∧ (x22.1.2.3 = x15.1.2.3 ∧ FlatL x22.1.2.4 ∧ x22.1.2.4 = x15.1.2.4) ∧ (x22.1.3.3 = x15.1.3.3 ∧
FlatL x22.1.3.4 ∧ x22.1.3.4 = x15.1.3.4) ∧ (True ∧ (x22.3.1.1 = Bool.true ∧ x22.3.1.2 = (0 : Nat) ∧ x22.3.1.3 = (0 : Nat)) ∧ (x22.3.2.1 = Bool.true ∧ x22.3.2.2 = (0 : Nat) ∧
x22.3.2.3 = (0 : Nat)) ∧ (x22.3.3.1 = Bool.true ∧ x22.3.3.2 = (0 : Nat) ∧ x22.3.3.3 = (0 : Nat)) ∧ x22.3.4 = (0 : Int) ∧ x22.3.5 = (0 : Int) ∧ x22.3.6 = (0 : Int) ∧ x22.3.7 = (0 :
Int) ∧ x22.3.8 = (0 : Int) ∧ True) ∧ (FlatL x22.3.1.4 ∧ True) ∧ (FlatL x22.3.2.4 ∧ True) ∧ (FlatL x22.3.3.4 ∧ True) ∧ (True ∧ FlatL cells0 ∧ cells0 = cells0) ∧ (True ∧ FlatL cells1
∧ cells1 = cells1) ∧ (True ∧ FlatL cells2 ∧ cells2 = cells2) ∧ (True ∧ FlatL cells4 ∧ cells4 = cells4) ∧ (True ∧ FlatL cells5 ∧ cells5 = cells5) ∧ (True ∧ FlatL cells6 ∧ cells6 =
cells6) ∧ (True ∧ FlatL cells8 ∧ cells8 = cells8) ∧ (True ∧ FlatL cells9 ∧ cells9 = cells9) ∧ (True ∧ FlatL cells10 ∧ cells10 = cells10) ∧ True) ∧ True) ∧ True) ∧ ∀ (x23 : E2), isP
xs x23.1 x23.2 ∧ isP xs x23.3 x23.4 → ((True ∧ (∃ (x24 : List Int), Sli (Value.int IntKind.u8) (1 : Nat) a.1 a.2 (Min.min a.3 (300 : Nat)) a.4 a.5 x24 ∧ Byts8 x24) ∧ Min.min a.3
(300 : Nat) ≤ (100000 : Nat)) ∧ (((a.1 = a.1 ∧ a.2 = a.2 ∧ Min.min a.3 (300 : Nat) = Min.min a.3 (300 : Nat) ∧ a.4 = a.4) ∧ True) ∧ (True ∧ FlatL a.5 ∧ a.5 = a.5) ∧ True) ∧ (∀ (x25
: MR), (∀ (x26 : List Int), Sli (Value.int IntKind.u8) (1 : Nat) a.1 a.2 (Min.min a.3 (300 : Nat)) a.4 a.5 x26 → ∃ (x27 : List Int), LC x25.2 x27 ∧ decM x26 = DM.mk (0 : Int) x25.1
x27 x25.3) → ∃ (x28 : E3), (isP xs x28.1 x28.2 ∧ isP xs x28.3 x28.4 ∧ isM xs x28.5 x28.6) ∧ ((a.1 = a.1 ∧ a.2 = a.2 ∧ Min.min a.3 (300 : Nat) = Min.min a.3 (300 : Nat) ∧ a.4 = a.4)
∧ (0 : Nat) = (0 : Nat) ∧ x28.2 = x23.2 ∧ (0 : Nat) = (0 : Nat) ∧ x28.4 = x23.4 ∧ (0 : Nat) = (0 : Nat) ∧ x28.6 = (0 : Int) ∧ True) ∧ ((True ∧ FlatL a.5 ∧ a.5 = a.5) ∧ (True ∧
(x28.1.1.1 = x23.1.1.1 ∧ (0 : Nat) = (0 : Nat) ∧ x28.1.1.2 = x23.1.1.2 ∧ x28.1.1.3 = x23.1.1.3) ∧ (x28.1.2.1 = x23.1.2.1 ∧ (0 : Nat) = (0 : Nat) ∧ x28.1.2.2 = x23.1.2.2 ∧ x28.1.2.3
= x23.1.2.3) ∧ (x28.1.3.1 = x23.1.3.1 ∧ (0 : Nat) = (0 : Nat) ∧ x28.1.3.2 = x23.1.3.2 ∧ x28.1.3.3 = x23.1.3.3) ∧ x28.1.4 = x23.1.4 ∧ x28.1.5 = x23.1.5 ∧ x28.1.6 = x23.1.6 ∧ x28.1.7
= x23.1.7 ∧ x28.1.8 = x23.1.8 ∧ True) ∧ (x28.1.1.3 = x23.1.1.3 ∧ FlatL x28.1.1.4 ∧ x28.1.1.4 = x23.1.1.4) ∧ (x28.1.2.3 = x23.1.2.3 ∧ FlatL x28.1.2.4 ∧ x28.1.2.4 = x23.1.2.4) ∧
(x28.1.3.3 = x23.1.3.3 ∧ FlatL x28.1.3.4 ∧ x28.1.3.4 = x23.1.3.4) ∧ (True ∧ (x28.3.1.1 = x23.3.1.1 ∧ (0 : Nat) = (0 : Nat) ∧ x28.3.1.2 = x23.3.1.2 ∧ x28.3.1.3 = x23.3.1.3) ∧
(x28.3.2.1 = x23.3.2.1 ∧ (0 : Nat) = (0 : Nat) ∧ x28.3.2.2 = x23.3.2.2 ∧ x28.3.2.3 = x23.3.2.3) ∧ (x28.3.3.1 = x23.3.3.1 ∧ (0 : Nat) = (0 : Nat) ∧ x28.3.3.2 = x23.3.3.2 ∧ x28.3.3.3
= x23.3.3.3) ∧ x28.3.4 = x23.3.4 ∧ x28.3.5 = x23.3.5 ∧ x28.3.6 = x23.3.6 ∧ x28.3.7 = x23.3.7 ∧ x28.3.8 = x23.3.8 ∧ True) ∧ (x28.3.1.3 = x23.3.1.3 ∧ FlatL x28.3.1.4 ∧ x28.3.1.4 =
x23.3.1.4) ∧ (x28.3.2.3 = x23.3.2.3 ∧ FlatL x28.3.2.4 ∧ x28.3.2.4 = x23.3.2.4) ∧ (x28.3.3.3 = x23.3.3.3 ∧ FlatL x28.3.3.4 ∧ x28.3.3.4 = x23.3.3.4) ∧ (True ∧ x28.5.1 = x25.1 ∧
(x28.5.2.1 = x25.2.1 ∧ (0 : Nat) = (0 : Nat) ∧ x28.5.2.2 = x25.2.2 ∧ x28.5.2.3 = x25.2.3) ∧ x28.5.3.1 = x25.3.1 ∧ x28.5.3.2 = x25.3.2 ∧ x28.5.3.3 = x25.3.3 ∧ x28.5.3.4 = x25.3.4 ∧
x28.5.3.5 = x25.3.5 ∧ x28.5.3.6 = x25.3.6 ∧ x28.5.3.7 = x25.3.7 ∧ x28.5.3.8 = x25.3.8 ∧ True) ∧ (x28.5.2.3 = x25.2.3 ∧ FlatL x28.5.2.4 ∧ x28.5.2.4 = x25.2.4) ∧ (True ∧ FlatL cells0
∧ cells0 = cells0) ∧ (True ∧ FlatL cells1 ∧ cells1 = cells1) ∧ (True ∧ FlatL cells2 ∧ cells2 = cells2) ∧ (True ∧ FlatL cells4 ∧ cells4 = cells4) ∧ (True ∧ FlatL cells5 ∧ cells5 =
cells5) ∧ (True ∧ FlatL cells6 ∧ cells6 = cells6) ∧ (True ∧ FlatL cells8 ∧ cells8 = cells8) ∧ (True ∧ FlatL cells9 ∧ cells9 = cells9) ∧ (True ∧ FlatL cells10 ∧ cells10 = cells10) ∧
True) ∧ True) ∧ (∀ (x29 : EE), (x29.1 ≠ (0 : Int) ∧ ∀ (x30 : List Int), Sli (Value.int IntKind.u8) (1 : Nat) a.1 a.2 (Min.min a.3 (300 : Nat)) a.4 a.5 x30 → (decM x30).1 = x29.1) →
∃ (x31 : E3), (isP xs x31.1 x31.2 ∧ isP xs x31.3 x31.4 ∧ isM xs x31.5 x31.6) ∧ ((a.1 = a.1 ∧ a.2 = a.2 ∧ Min.min a.3 (300 : Nat) = Min.min a.3 (300 : Nat) ∧ a.4 = a.4) ∧ (0 : Nat)
= (0 : Nat) ∧ x31.2 = x23.2 ∧ (0 : Nat) = (0 : Nat) ∧ x31.4 = x23.4 ∧ (0 : Nat) = (0 : Nat) ∧ x31.6 = x29.1 ∧ True) ∧ ((True ∧ FlatL a.5 ∧ a.5 = a.5) ∧ (True ∧ (x31.1.1.1 =
x23.1.1.1 ∧ (0 : Nat) = (0 : Nat) ∧ x31.1.1.2 = x23.1.1.2 ∧ x31.1.1.3 = x23.1.1.3) ∧ (x31.1.2.1 = x23.1.2.1 ∧ (0 : Nat) = (0 : Nat) ∧ x31.1.2.2 = x23.1.2.2 ∧ x31.1.2.3 = x23.1.2.3)
∧ (x31.1.3.1 = x23.1.3.1 ∧ (0 : Nat) = (0 : Nat) ∧ x31.1.3.2 = x23.1.3.2 ∧ x31.1.3.3 = x23.1.3.3) ∧ x31.1.4 = x23.1.4 ∧ x31.1.5 = x23.1.5 ∧ x31.1.6 = x23.1.6 ∧ x31.1.7 = x23.1.7 ∧
x31.1.8 = x23.1.8 ∧ True) ∧ (x31.1.1.3 = x23.1.1.3 ∧ FlatL x31.1.1.4 ∧ x31.1.1.4 = x23.1.1.4) ∧ (x31.1.2.3 = x23.1.2.3 ∧ FlatL x31.1.2.4 ∧ x31.1.2.4 = x23.1.2.4) ∧ (x31.1.3.3 =
x23.1.3.3 ∧ FlatL x31.1.3.4 ∧ x31.1.3.4 = x23.1.3.4) ∧ (True ∧ (x31.3.1.1 = x23.3.1.1 ∧ (0 : Nat) = (0 : Nat) ∧ x31.3.1.2 = x23.3.1.2 ∧ x31.3.1.3 = x23.3.1.3) ∧ (x31.3.2.1 =
x23.3.2.1 ∧ (0 : Nat) = (0 : Nat) ∧ x31.3.2.2 = x23.3.2.2 ∧ x31.3.2.3 = x23.3.2.3) ∧ (x31.3.3.1 = x23.3.3.1 ∧ (0 : Nat) = (0 : Nat) ∧ x31.3.3.2 = x23.3.3.2 ∧ x31.3.3.3 = x23.3.3.3)
∧ x31.3.4 = x23.3.4 ∧ x31.3.5 = x23.3.5 ∧ x31.3.6 = x23.3.6 ∧ x31.3.7 = x23.3.7 ∧ x31.3.8 = x23.3.8 ∧ True) ∧ (x31.3.1.3 = x23.3.1.3 ∧ FlatL x31.3.1.4 ∧ x31.3.1.4 = x23.3.1.4) ∧
(x31.3.2.3 = x23.3.2.3 ∧ FlatL x31.3.2.4 ∧ x31.3.2.4 = x23.3.2.4) ∧ (x31.3.3.3 = x23.3.3.3 ∧ FlatL x31.3.3.4 ∧ x31.3.3.4 = x23.3.3.4) ∧ (True ∧ x31.5.1 = Bool.false ∧ (x31.5.2.1 =
Bool.true ∧ x31.5.2.2 = (0 : Nat) ∧ x31.5.2.3 = (0 : Nat)) ∧ x31.5.3.1 = (0 : Int) ∧ x31.5.3.2 = (0 : Int) ∧ x31.5.3.3 = (0 : Int) ∧ x31.5.3.4 = (0 : Int) ∧ x31.5.3.5 = (0 : Int) ∧
x31.5.3.6 = (0 : Int) ∧ x31.5.3.7 = (0 : Int) ∧ x31.5.3.8 = (0 : Int) ∧ True) ∧ (FlatL x31.5.2.4 ∧ True) ∧ (True ∧ FlatL cells0 ∧ cells0 = cells0) ∧ (True ∧ FlatL cells1 ∧ cells1 =
cells1) ∧ (True ∧ FlatL cells2 ∧ cells2 = cells2) ∧ (True ∧ FlatL cells4 ∧ cells4 = cells4) ∧ (True ∧ FlatL cells5 ∧ cells5 = cells5) ∧ (True ∧ FlatL cells6 ∧ cells6 = cells6) ∧
(True ∧ FlatL cells8 ∧ cells8 = cells8) ∧ (True ∧ FlatL cells9 ∧ cells9 = cells9) ∧ (True ∧ FlatL cells10 ∧ cells10 = cells10) ∧ True) ∧ True) ∧ True) ∧ ∀ (x32 : E3), isP xs x32.1
x32.2 ∧ isP xs x32.3 x32.4 ∧ isM xs x32.5 x32.6 → ((True ∧ (∃ (x33 : List Int), Sli (Value.int IntKind.u8) (1 : Nat) a.1 a.2 (Min.min a.3 (300 : Nat)) a.4 a.5 x33 ∧ Byts8 x33) ∧
Min.min a.3 (300 : Nat) ≤ (100000 : Nat)) ∧ (((a.1 = a.1 ∧ a.2 = a.2 ∧ Min.min a.3 (300 : Nat) = Min.min a.3 (300 : Nat) ∧ a.4 = a.4) ∧ True) ∧ (True ∧ FlatL a.5 ∧ a.5 = a.5) ∧
True) ∧ (∀ (x34 : MR), (∀ (x35 : List Int), Sli (Value.int IntKind.u8) (1 : Nat) a.1 a.2 (Min.min a.3 (300 : Nat)) a.4 a.5 x35 → ∃ (x36 : List Int), LC x34.2 x36 ∧ decM x35 = DM.mk
(0 : Int) x34.1 x36 x34.3) → ∃ (x37 : E4), (isP xs x37.1 x37.2 ∧ isP xs x37.3 x37.4 ∧ isM xs x37.5 x37.6 ∧ isM xs x37.7 x37.8) ∧ ((a.1 = a.1 ∧ a.2 = a.2 ∧ Min.min a.3 (300 : Nat) =
Min.min a.3 (300 : Nat) ∧ a.4 = a.4) ∧ (0 : Nat) = (0 : Nat) ∧ x37.2 = x32.2 ∧ (0 : Nat) = (0 : Nat) ∧ x37.4 = x32.4 ∧ (0 : Nat) = (0 : Nat) ∧ x37.6 = x32.6 ∧ (0 : Nat) = (0 : Nat)
∧ x37.8 = (0 : Int) ∧ True) ∧ ((True ∧ FlatL a.5 ∧ a.5 = a.5) ∧ (True ∧ (x37.1.1.1 = x32.1.1.1 ∧ (0 : Nat) = (0 : Nat) ∧ x37.1.1.2 = x32.1.1.2 ∧ x37.1.1.3 = x32.1.1.3) ∧ (x37.1.2.1
= x32.1.2.1 ∧ (0 : Nat) = (0 : Nat) ∧ x37.1.2.2 = x32.1.2.2 ∧ x37.1.2.3 = x32.1.2.3) ∧ (x37.1.3.1 = x32.1.3.1 ∧ (0 : Nat) = (0 : Nat) ∧ x37.1.3.2 = x32.1.3.2 ∧ x37.1.3.3 =
x32.1.3.3) ∧ x37.1.4 = x32.1.4 ∧ x37.1.5 = x32.1.5 ∧ x37.1.6 = x32.1.6 ∧ x37.1.7 = x32.1.7 ∧ x37.1.8 = x32.1.8 ∧ True) ∧ (x37.1.1.3 = x32.1.1.3 ∧ FlatL x37.1.1.4 ∧ x37.1.1.4 =
x32.1.1.4) ∧ (x37.1.2.3 = x32.1.2.3 ∧ FlatL x37.1.2.4 ∧ x37.1.2.4 = x32.1.2.4) ∧ (x37.1.3.3 = x32.1.3.3 ∧ FlatL x37.1.3.4 ∧ x37.1.3.4 = x32.1.3.4) ∧ (True ∧ (x37.3.1.1 = x32.3.1.1
∧ (0 : Nat) = (0 : Nat) ∧ x37.3.1.2 = x32.3.1.2 ∧ x37.3.1.3 = x32.3.1.3) ∧ (x37.3.2.1 = x32.3.2.1 ∧ (0 : Nat) = (0 : Nat) ∧ x37.3.2.2 = x32.3.2.2 ∧ x37.3.2.3 = x32.3.2.3) ∧
(x37.3.3.1 = x32.3.3.1 ∧ (0 : Nat) = (0 : Nat) ∧ x37.3.3.2 = x32.3.3.2 ∧ x37.3.3.3 = x32.3.3.3) ∧ x37.3.4 = x32.3.4 ∧ x37.3.5 = x32.3.5 ∧ x37.3.6 = x32.3.6 ∧ x37.3.7 = x32.3.7 ∧
x37.3.8 = x32.3.8 ∧ True) ∧ (x37.3.1.3 = x32.3.1.3 ∧ FlatL x37.3.1.4 ∧ x37.3.1.4 = x32.3.1.4) ∧ (x37.3.2.3 = x32.3.2.3 ∧ FlatL x37.3.2.4 ∧ x37.3.2.4 = x32.3.2.4) ∧ (x37.3.3.3 =
x32.3.3.3 ∧ FlatL x37.3.3.4 ∧ x37.3.3.4 = x32.3.3.4) ∧ (True ∧ x37.5.1 = x32.5.1 ∧ (x37.5.2.1 = x32.5.2.1 ∧ (0 : Nat) = (0 : Nat) ∧ x37.5.2.2 = x32.5.2.2 ∧ x37.5.2.3 = x32.5.2.3) ∧
x37.5.3.1 = x32.5.3.1 ∧ x37.5.3.2 = x32.5.3.2 ∧ x37.5.3.3 = x32.5.3.3 ∧ x37.5.3.4 = x32.5.3.4 ∧ x37.5.3.5 = x32.5.3.5 ∧ x37.5.3.6 = x32.5.3.6 ∧ x37.5.3.7 = x32.5.3.7 ∧ x37.5.3.8 =
x32.5.3.8 ∧ True) ∧ (x37.5.2.3 = x32.5.2.3 ∧ FlatL x37.5.2.4 ∧ x37.5.2.4 = x32.5.2.4) ∧ (True ∧ x37.7.1 = x34.1 ∧ (x37.7.2.1 = x34.2.1 ∧ (0 : Nat) = (0 : Nat) ∧ x37.7.2.2 = x34.2.2
∧ x37.7.2.3 = x34.2.3) ∧ x37.7.3.1 = x34.3.1 ∧ x37.7.3.2 = x34.3.2 ∧ x37.7.3.3 = x34.3.3 ∧ x37.7.3.4 = x34.3.4 ∧ x37.7.3.5 = x34.3.5 ∧ x37.7.3.6 = x34.3.6 ∧ x37.7.3.7 = x34.3.7 ∧
x37.7.3.8 = x34.3.8 ∧ True) ∧ (x37.7.2.3 = x34.2.3 ∧ FlatL x37.7.2.4 ∧ x37.7.2.4 = x34.2.4) ∧ (True ∧ FlatL cells0 ∧ cells0 = cells0) ∧ (True ∧ FlatL cells1 ∧ cells1 = cells1) ∧
(True ∧ FlatL cells2 ∧ cells2 = cells2) ∧ (True ∧ FlatL cells4 ∧ cells4 = cells4) ∧ (True ∧ FlatL cells5 ∧ cells5 = cells5) ∧ (True ∧ FlatL cells6 ∧ cells6 = cells6) ∧ (True ∧
FlatL cells8 ∧ cells8 = cells8) ∧ (True ∧ FlatL cells9 ∧ cells9 = cells9) ∧ (True ∧ FlatL cells10 ∧ cells10 = cells10) ∧ True) ∧ True) ∧ (∀ (x38 : EE), (x38.1 ≠ (0 : Int) ∧ ∀ (x39
: List Int), Sli (Value.int IntKind.u8) (1 : Nat) a.1 a.2 (Min.min a.3 (300 : Nat)) a.4 a.5 x39 → (decM x39).1 = x38.1) → ∃ (x40 : E4), (isP xs x40.1 x40.2 ∧ isP xs x40.3 x40.4 ∧
isM xs x40.5 x40.6 ∧ isM xs x40.7 x40.8) ∧ ((a.1 = a.1 ∧ a.2 = a.2 ∧ Min.min a.3 (300 : Nat) = Min.min a.3 (300 : Nat) ∧ a.4 = a.4) ∧ (0 : Nat) = (0 : Nat) ∧ x40.2 = x32.2 ∧ (0 :
Nat) = (0 : Nat) ∧ x40.4 = x32.4 ∧ (0 : Nat) = (0 : Nat) ∧ x40.6 = x32.6 ∧ (0 : Nat) = (0 : Nat) ∧ x40.8 = x38.1 ∧ True) ∧ ((True ∧ FlatL a.5 ∧ a.5 = a.5) ∧ (True ∧ (x40.1.1.1 =
x32.1.1.1 ∧ (0 : Nat) = (0 : Nat) ∧ x40.1.1.2 = x32.1.1.2 ∧ x40.1.1.3 = x32.1.1.3) ∧ (x40.1.2.1 = x32.1.2.1 ∧ (0 : Nat) = (0 : Nat) ∧ x40.1.2.2 = x32.1.2.2 ∧ x40.1.2.3 = x32.1.2.3)
∧ (x40.1.3.1 = x32.1.3.1 ∧ (0 : Nat) = (0 : Nat) ∧ x40.1.3.2 = x32.1.3.2 ∧ x40.1.3.3 = x32.1.3.3) ∧ x40.1.4 = x32.1.4 ∧ x40.1.5 = x32.1.5 ∧ x40.1.6 = x32.1.6 ∧ x40.1.7 = x32.1.7 ∧
x40.1.8 = x32.1.8 ∧ True) ∧ (x40.1.1.3 = x32.1.1.3 ∧ FlatL x40.1.1.4 ∧ x40.1.1.4 = x32.1.1.4) ∧ (x40.1.2.3 = x32.1.2.3 ∧ FlatL x40.1.2.4 ∧ x40.1.2.4 = x32.1.2.4) ∧ (x40.1.3.3 =
x32.1.3.3 ∧ FlatL x40.1.3.4 ∧ x40.1.3.4 = x32.1.3.4) ∧ (True ∧ (x40.3.1.1 = x32.3.1.1 ∧ (0 : Nat) = (0 : Nat) ∧ x40.3.1.2 = x32.3.1.2 ∧ x40.3.1.3 = x32.3.1.3) ∧ (x40.3.2.1 =
x32.3.2.1 ∧ (0 : Nat) = (0 : Nat) ∧ x40.3.2.2 = x32.3.2.2 ∧ x40.3.2.3 = x32.3.2.3) ∧ (x40.3.3.1 = x32.3.3.1 ∧ (0 : Nat) = (0 : Nat) ∧ x40.3.3.2 = x32.3.3.2 ∧ x40.3.3.3 = x32.3.3.3)
∧ x40.3.4 = x32.3.4 ∧ x40.3.5 = x32.3.5 ∧ x40.3.6 = x32.3.6 ∧ x40.3.7 = x32.3.7 ∧ x40.3.8 = x32.3.8 ∧ True) ∧ (x40.3.1.3 = x32.3.1.3 ∧ FlatL x40.3.1.4 ∧ x40.3.1.4 = x32.3.1.4) ∧
(x40.3.2.3 = x32.3.2.3 ∧ FlatL x40.3.2.4 ∧ x40.3.2.4 = x32.3.2.4) ∧ (x40.3.3.3 = x32.3.3.3 ∧ FlatL x40.3.3.4 ∧ x40.3.3.4 = x32.3.3.4) ∧ (True ∧ x40.5.1 = x32.5.1 ∧ (x40.5.2.1 =
x32.5.2.1 ∧ (0 : Nat) = (0 : Nat) ∧ x40.5.2.2 = x32.5.2.2 ∧ x40.5.2.3 = x32.5.2.3) ∧ x40.5.3.1 = x32.5.3.1 ∧ x40.5.3.2 = x32.5.3.2 ∧ x40.5.3.3 = x32.5.3.3 ∧ x40.5.3.4 = x32.5.3.4 ∧
x40.5.3.5 = x32.5.3.5 ∧ x40.5.3.6 = x32.5.3.6 ∧ x40.5.3.7 = x32.5.3.7 ∧ x40.5.3.8 = x32.5.3.8 ∧ True) ∧ (x40.5.2.3 = x32.5.2.3 ∧ FlatL x40.5.2.4 ∧ x40.5.2.4 = x32.5.2.4) ∧ (True ∧
x40.7.1 = Bool.false ∧ (x40.7.2.1 = Bool.true ∧ x40.7.2.2 = (0 : Nat) ∧ x40.7.2.3 = (0 : Nat)) ∧ x40.7.3.1 = (0 : Int) ∧ x40.7.3.2 = (0 : Int) ∧ x40.7.3.3 = (0 : Int) ∧ x40.7.3.4 =
(0 : Int) ∧ x40.7.3.5 = (0 : Int) ∧ x40.7.3.6 = (0 : Int) ∧ x40.7.3.7 = (0 : Int) ∧ x40.7.3.8 = (0 : Int) ∧ True) ∧ (FlatL x40.7.2.4 ∧ True) ∧ (True ∧ FlatL cells0 ∧ cells0 =
cells0) ∧ (True ∧ FlatL cells1 ∧ cells1 = cells1) ∧ (True ∧ FlatL cells2 ∧ cells2 = cells2) ∧ (True ∧ FlatL cells4 ∧ cells4 = cells4) ∧ (True ∧ FlatL cells5 ∧ cells5 = cells5) ∧
(True ∧ FlatL cells6 ∧ cells6 = cells6) ∧ (True ∧ FlatL cells8 ∧ cells8 = cells8) ∧ (True ∧ FlatL cells9 ∧ cells9 = cells9) ∧ (True ∧ FlatL cells10 ∧ cells10 = cells10) ∧ True) ∧
True) ∧ True) ∧ ∀ (x41 : E4), isP xs x41.1 x41.2 ∧ isP xs x41.3 x41.4 ∧ isM xs x41.5 x41.6 ∧ isM xs x41.7 x41.8 → (x41.2 ≠ x41.4 → (True ∧ True ∧ True ∧ True ∧ True ∧ True ∧ True ∧
True ∧ True ∧ True ∧ True ∧ True ∧ True ∧ True ∧ True ∧ True ∧ True ∧ True ∧ True ∧ True ∧ True ∧ True ∧ True ∧ True) ∧ ∃ (x42 : Unit), True ∧ Bool.true = Bool.false ∧ True) ∧
(¬x41.2 ≠ x41.4 → (True ∧ (∃ (x43 : PX), PH (PA.mk (SA.mk x41.1.1.1 (0 : Nat) x41.1.1.2 x41.1.1.3 x41.1.1.4) (SA.mk x41.1.2.1 (0 : Nat) x41.1.2.2 x41.1.2.3 x41.1.2.4) (SA.mk
x41.1.3.1 (0 : Nat) x41.1.3.2 x41.1.3.3 x41.1.3.4) x41.1.4 x41.1.5 x41.1.6 x41.1.7 x41.1.8) x43) ∧ x41.1.3.2 ≤ (100 : Nat)) ∧ ((((x41.1.1.1 = x41.1.1.1 ∧ nat_lit 0 = (0 : Nat) ∧
x41.1.1.2 = x41.1.1.2 ∧ x41.1.1.3 = x41.1.1.3) ∧ (x41.1.2.1 = x41.1.2.1 ∧ nat_lit 0 = (0 : Nat) ∧ x41.1.2.2 = x41.1.2.2 ∧ x41.1.2.3 = x41.1.2.3) ∧ (x41.1.3.1 = x41.1.3.1 ∧ nat_lit
0 = (0 : Nat) ∧ x41.1.3.2 = x41.1.3.2 ∧ x41.1.3.3 = x41.1.3.3) ∧ x41.1.4 = x41.1.4 ∧ x41.1.5 = x41.1.5 ∧ x41.1.6 = x41.1.6 ∧ x41.1.7 = x41.1.7 ∧ x41.1.8 = x41.1.8 ∧ True) ∧ True) ∧
(True ∧ FlatL x41.1.1.4 ∧ x41.1.1.4 = x41.1.1.4) ∧ (True ∧ FlatL x41.1.2.4 ∧ x41.1.2.4 = x41.1.2.4) ∧ (True ∧ FlatL x41.1.3.4 ∧ x41.1.3.4 = x41.1.3.4) ∧ True) ∧ (∀ (x44 : RN), (∀
(x45 : List Int), Sli (Value.int IntKind.u8) (8 : Nat) x41.1.3.1 (nat_lit 0) x41.1.3.2 x41.1.3.3 x41.1.3.4 x45 → Sli (Value.int IntKind.u8) (8 : Nat) x44.1 (0 : Nat) x41.1.3.2
x44.2 x44.3 x45) → (True ∧ ((∃ (x46 : PX), PH (PA.mk (SA.mk x41.1.1.1 (nat_lit 0) x41.1.1.2 x41.1.1.3 x41.1.1.4) (SA.mk x41.1.2.1 (nat_lit 0) x41.1.2.2 x41.1.2.3 x41.1.2.4) (SA.mk
x44.1 (0 : Nat) x41.1.3.2 x44.2 x44.3) x41.1.4 x41.1.5 x41.1.6 x41.1.7 x41.1.8) x46 ∧ PW (PA.mk (SA.mk x41.1.1.1 (nat_lit 0) x41.1.1.2 x41.1.1.3 x41.1.1.4) (SA.mk x41.1.2.1
(nat_lit 0) x41.1.2.2 x41.1.2.3 x41.1.2.4) (SA.mk x44.1 (0 : Nat) x41.1.3.2 x44.2 x44.3) x41.1.4 x41.1.5 x41.1.6 x41.1.7 x41.1.8) x46) ∧ ∃ (x47 : PX), PH (PA.mk (SA.mk x41.3.1.1 (0
: Nat) x41.3.1.2 x41.3.1.3 x41.3.1.4) (SA.mk x41.3.2.1 (0 : Nat) x41.3.2.2 x41.3.2.3 x41.3.2.4) (SA.mk x41.3.3.1 (0 : Nat) x41.3.3.2 x41.3.3.3 x41.3.3.4) x41.3.4 x41.3.5 x41.3.6
x41.3.7 x41.3.8) x47 ∧ PW (PA.mk (SA.mk x41.3.1.1 (0 : Nat) x41.3.1.2 x41.3.1.3 x41.3.1.4) (SA.mk x41.3.2.1 (0 : Nat) x41.3.2.2 x41.3.2.3 x41.3.2.4) (SA.mk x41.3.3.1 (0 : Nat)
x41.3.3.2 x41.3.3.3 x41.3.3.4) x41.3.4 x41.3.5 x41.3.6 x41.3.7 x41.3.8) x47) ∧ (x41.1.1.2 ≤ (70 : Nat) ∧ x41.1.2.2 ≤ (10 : Nat) ∧ x41.1.3.2 ≤ (10 : Nat)) ∧ x41.3.1.2 ≤ (70 : Nat) ∧
x41.3.2.2 ≤ (10 : Nat) ∧ x41.3.3.2 ≤ (10 : Nat)) ∧ ((((x41.1.1.1 = x41.1.1.1 ∧ nat_lit 0 = nat_lit 0 ∧ x41.1.1.2 = x41.1.1.2 ∧ x41.1.1.3 = x41.1.1.3) ∧ (x41.1.2.1 = x41.1.2.1 ∧
nat_lit 0 = nat_lit 0 ∧ x41.1.2.2 = x41.1.2.2 ∧ x41.1.2.3 = x41.1.2.3) ∧ (x44.1 = x44.1 ∧ nat_lit 0 = (0 : Nat) ∧ x41.1.3.2 = x41.1.3.2 ∧ x44.2 = x44.2) ∧ x41.1.4 = x41.1.4 ∧
x41.1.5 = x41.1.5 ∧ x41.1.6 = x41.1.6 ∧ x41.1.7 = x41.1.7 ∧ x41.1.8 = x41.1.8 ∧ True) ∧ ((x41.3.1.1 = x41.3.1.1 ∧ nat_lit 0 = (0 : Nat) ∧ x41.3.1.2 = x41.3.1.2 ∧ x41.3.1.3 =
x41.3.1.3) ∧ (x41.3.2.1 = x41.3.2.1 ∧ nat_lit 0 = (0 : Nat) ∧ x41.3.2.2 = x41.3.2.2 ∧ x41.3.2.3 = x41.3.2.3) ∧ (x41.3.3.1 = x41.3.3.1 ∧ nat_lit 0 = (0 : Nat) ∧ x41.3.3.2 =
x41.3.3.2 ∧ x41.3.3.3 = x41.3.3.3) ∧ x41.3.4 = x41.3.4 ∧ x41.3.5 = x41.3.5 ∧ x41.3.6 = x41.3.6 ∧ x41.3.7 = x41.3.7 ∧ x41.3.8 = x41.3.8 ∧ True) ∧ True) ∧ (True ∧ FlatL x41.1.1.4 ∧
x41.1.1.4 = x41.1.1.4) ∧ (True ∧ FlatL x41.1.2.4 ∧ x41.1.2.4 = x41.1.2.4) ∧ (True ∧ FlatL x44.3 ∧ x44.3 = x44.3) ∧ (True ∧ FlatL x41.3.1.4 ∧ x41.3.1.4 = x41.3.1.4) ∧ (True ∧ FlatL
x41.3.2.4 ∧ x41.3.2.4 = x41.3.2.4) ∧ (True ∧ FlatL x41.3.3.4 ∧ x41.3.3.4 = x41.3.3.4) ∧ True) ∧ (∀ (x48 : BL), (∀ (x49 x50 : PX), PH (PA.mk (SA.mk x41.1.1.1 (nat_lit 0) x41.1.1.2
x41.1.1.3 x41.1.1.4) (SA.mk x41.1.2.1 (nat_lit 0) x41.1.2.2 x41.1.2.3 x41.1.2.4) (SA.mk x44.1 (0 : Nat) x41.1.3.2 x44.2 x44.3) x41.1.4 x41.1.5 x41.1.6 x41.1.7 x41.1.8) x49 → PH
(PA.mk (SA.mk x41.3.1.1 (0 : Nat) x41.3.1.2 x41.3.1.3 x41.3.1.4) (SA.mk x41.3.2.1 (0 : Nat) x41.3.2.2 x41.3.2.3 x41.3.2.4) (SA.mk x41.3.3.1 (0 : Nat) x41.3.3.2 x41.3.3.3 x41.3.3.4)
x41.3.4 x41.3.5 x41.3.6 x41.3.7 x41.3.8) x50 → (x48.1 = Bool.true ↔ enc (PA.mk (SA.mk x41.1.1.1 (nat_lit 0) x41.1.1.2 x41.1.1.3 x41.1.1.4) (SA.mk x41.1.2.1 (nat_lit 0) x41.1.2.2
x41.1.2.3 x41.1.2.4) (SA.mk x44.1 (0 : Nat) x41.1.3.2 x44.2 x44.3) x41.1.4 x41.1.5 x41.1.6 x41.1.7 x41.1.8) x49 = enc (PA.mk (SA.mk x41.3.1.1 (0 : Nat) x41.3.1.2 x41.3.1.3
x41.3.1.4) (SA.mk x41.3.2.1 (0 : Nat) x41.3.2.2 x41.3.2.3 x41.3.2.4) (SA.mk x41.3.3.1 (0 : Nat) x41.3.3.2 x41.3.3.3 x41.3.3.4) x41.3.4 x41.3.5 x41.3.6 x41.3.7 x41.3.8) x50)) →
(x48.1 = Bool.true → (x41.6 ≠ x41.8 → (True ∧ True ∧ True ∧ True ∧ True ∧ True ∧ (W_G_reads_0 x41 = W_G_reads_0 x41 ∧ True) ∧ True ∧ True ∧ True ∧ True ∧ True ∧ True ∧ True ∧ True
∧ True ∧ True ∧ True ∧ True ∧ True ∧ True ∧ True ∧ True ∧ True) ∧ ∃ (x51 : Unit), True ∧ Bool.true = Bool.false ∧ True) ∧ (¬x41.6 ≠ x41.8 → (True ∧ (∃ (x52 : List Int), MH (MA.mk
x41.5.1 (SA.mk x41.5.2.1 (0 : Nat) x41.5.2.2 x41.5.2.3 x41.5.2.4) (D8.mk x41.5.3.1 x41.5.3.2 x41.5.3.3 x41.5.3.4 x41.5.3.5 x41.5.3.6 x41.5.3.7 x41.5.3.8)) x52) ∧ x41.5.2.2 ≤ (100 :
Nat)) ∧ (((x41.5.1 = x41.5.1 ∧ (x41.5.2.1 = x41.5.2.1 ∧ nat_lit 0 = (0 : Nat) ∧ x41.5.2.2 = x41.5.2.2 ∧ x41.5.2.3 = x41.5.2.3) ∧ x41.5.3.1 = x41.5.3.1 ∧ x41.5.3.2 = x41.5.3.2 ∧
x41.5.3.3 = x41.5.3.3 ∧ x41.5.3.4 = x41.5.3.4 ∧ x41.5.3.5 = x41.5.3.5 ∧ x41.5.3.6 = x41.5.3.6 ∧ x41.5.3.7 = x41.5.3.7 ∧ x41.5.3.8 = x41.5.3.8 ∧ True) ∧ True) ∧ (True ∧ FlatL
x41.5.2.4 ∧ x41.5.2.4 = x41.5.2.4) ∧ True) ∧ (∀ (x53 : OW), (x53.2 ≤ (3000 : Nat) ∧ ∀ (x54 : List Int), MH (MA.mk x41.5.1 (SA.mk x41.5.2.1 (0 : Nat) x41.5.2.2 x41.5.2.3 x41.5.2.4)
(D8.mk x41.5.3.1 x41.5.3.2 x41.5.3.3 x41.5.3.4 x41.5.3.5 x41.5.3.6 x41.5.3.7 x41.5.3.8)) x54 → OwB x53 (encM x41.5.1 x54 (D8.mk x41.5.3.1 x41.5.3.2 x41.5.3.3 x41.5.3.4 x41.5.3.5
x41.5.3.6 x41.5.3.7 x41.5.3.8))) → (True ∧ (∃ (x55 : List Int), MH (MA.mk x41.7.1 (SA.mk x41.7.2.1 (0 : Nat) x41.7.2.2 x41.7.2.3 x41.7.2.4) (D8.mk x41.7.3.1 x41.7.3.2 x41.7.3.3
x41.7.3.4 x41.7.3.5 x41.7.3.6 x41.7.3.7 x41.7.3.8)) x55) ∧ x41.7.2.2 ≤ (100 : Nat)) ∧ (((x41.7.1 = x41.7.1 ∧ (x41.7.2.1 = x41.7.2.1 ∧ nat_lit 0 = (0 : Nat) ∧ x41.7.2.2 = x41.7.2.2
∧ x41.7.2.3 = x41.7.2.3) ∧ x41.7.3.1 = x41.7.3.1 ∧ x41.7.3.2 = x41.7.3.2 ∧ x41.7.3.3 = x41.7.3.3 ∧ x41.7.3.4 = x41.7.3.4 ∧ x41.7.3.5 = x41.7.3.5 ∧ x41.7.3.6 = x41.7.3.6 ∧ x41.7.3.7
= x41.7.3.7 ∧ x41.7.3.8 = x41.7.3.8 ∧ True) ∧ True) ∧ (True ∧ FlatL x41.7.2.4 ∧ x41.7.2.4 = x41.7.2.4) ∧ True) ∧ (∀ (x56 : RW), ((List.length x56.2 ≤ x56.1 ∧ List.length x56.2 ≤
(3000 : Nat)) ∧ ∀ (x57 : List Int), MH (MA.mk x41.7.1 (SA.mk x41.7.2.1 (0 : Nat) x41.7.2.2 x41.7.2.3 x41.7.2.4) (D8.mk x41.7.3.1 x41.7.3.2 x41.7.3.3 x41.7.3.4 x41.7.3.5 x41.7.3.6
x41.7.3.7 x41.7.3.8)) x57 → HE IntKind.u8 x56.2 (encM x41.7.1 x57 (D8.mk x41.7.3.1 x41.7.3.2 x41.7.3.3 x41.7.3.4 x41.7.3.5 x41.7.3.6 x41.7.3.7 x41.7.3.8))) → (True ∧ (∃ (x58 : List
Int), ∃ (x59 : List Int), Sli (Value.int IntKind.u8) (1 : Nat) Bool.false (nat_lit 0) x53.1 x53.2 x53.3 x58 ∧ Sli (Value.int IntKind.u8) (1 : Nat) Bool.false (nat_lit 0)
(List.length x56.2) x56.1 x56.2 x59) ∧ x53.1 ≤ (1000000 : Nat) ∧ List.length x56.2 ≤ (1000000 : Nat)) ∧ (((Bool.false = Bool.false ∧ nat_lit 0 = (0 : Nat) ∧ x53.1 = x53.1 ∧ x53.2 =
x53.2) ∧ (Bool.false = Bool.false ∧ nat_lit 0 = (0 : Nat) ∧ List.length x56.2 = List.length x56.2 ∧ x56.1 = x56.1) ∧ True) ∧ (True ∧ FlatL x53.3 ∧ x53.3 = x53.3) ∧ (True ∧ FlatL
x56.2 ∧ x56.2 = x56.2) ∧ True) ∧ (∀ (x60 : Unit), (∀ (x61 x62 : List Int), Sli (Value.int IntKind.u8) (1 : Nat) Bool.false (nat_lit 0) x53.1 x53.2 x53.3 x61 → Sli (Value.int
IntKind.u8) (1 : Nat) Bool.false (nat_lit 0) (List.length x56.2) x56.1 x56.2 x62 → x61 = x62) → (True ∧ True ∧ True ∧ True ∧ True ∧ True ∧ (W_G_reads_0 x41 = W_G_reads_0 x41 ∧
True) ∧ True ∧ True ∧ True ∧ True ∧ True ∧ True ∧ True ∧ True ∧ True ∧ True ∧ True ∧ (W_G_reads_1 x41 = W_G_reads_1 x41 ∧ True) ∧ True ∧ True ∧ True ∧ True ∧ True) ∧ (True ∧ True)
∧ (True ∧ (True ∧ FlatL cells0 ∧ cells0 = cells0) ∧ (True ∧ FlatL cells1 ∧ cells1 = cells1) ∧ (True ∧ FlatL cells2 ∧ cells2 = cells2) ∧ (True ∧ FlatL cells4 ∧ cells4 = cells4) ∧
(True ∧ FlatL cells5 ∧ cells5 = cells5) ∧ (True ∧ FlatL cells6 ∧ cells6 = cells6) ∧ (True ∧ FlatL cells8 ∧ cells8 = cells8) ∧ (True ∧ FlatL cells9 ∧ cells9 = cells9) ∧ (True ∧
FlatL cells10 ∧ cells10 = cells10) ∧ True) ∧ (∀ (x63 : Unit), True → (x41.4 ≠ (0 : Int) → (x41.8 ≠ (0 : Int) → ∃ (x64 : Unit), True ∧ Bool.true = Bool.true ∧ True) ∧ (¬x41.8 ≠ (0 :
Int) → (True ∧ (∃ (x65 : List Int), MH (MA.mk x41.5.1 (SA.mk x41.5.2.1 (0 : Nat) x41.5.2.2 x41.5.2.3 x41.5.2.4) (D8.mk x41.5.3.1 x41.5.3.2 x41.5.3.3 x41.5.3.4 x41.5.3.5 x41.5.3.6
x41.5.3.7 x41.5.3.8)) x65) ∧ x41.5.2.2 ≤ (100 : Nat)) ∧ (((x41.5.1 = x41.5.1 ∧ (x41.5.2.1 = x41.5.2.1 ∧ nat_lit 0 = (0 : Nat) ∧ x41.5.2.2 = x41.5.2.2 ∧ x41.5.2.3 = x41.5.2.3) ∧
x41.5.3.1 = x41.5.3.1 ∧ x41.5.3.2 = x41.5.3.2 ∧ x41.5.3.3 = x41.5.3.3 ∧ x41.5.3.4 = x41.5.3.4 ∧ x41.5.3.5 = x41.5.3.5 ∧ x41.5.3.6 = x41.5.3.6 ∧ x41.5.3.7 = x41.5.3.7 ∧ x41.5.3.8 =
x41.5.3.8 ∧ True) ∧ True) ∧ (True ∧ FlatL x41.5.2.4 ∧ x41.5.2.4 = x41.5.2.4) ∧ True) ∧ (∀ (x66 : OW), (x66.2 ≤ (3000 : Nat) ∧ ∀ (x67 : List Int), MH (MA.mk x41.5.1 (SA.mk x41.5.2.1
(0 : Nat) x41.5.2.2 x41.5.2.3 x41.5.2.4) (D8.mk x41.5.3.1 x41.5.3.2 x41.5.3.3 x41.5.3.4 x41.5.3.5 x41.5.3.6 x41.5.3.7 x41.5.3.8)) x67 → OwB x66 (encM x41.5.1 x67 (D8.mk x41.5.3.1
x41.5.3.2 x41.5.3.3 x41.5.3.4 x41.5.3.5 x41.5.3.6 x41.5.3.7 x41.5.3.8))) → (True ∧ (∃ (x68 : List Int), ∃ (x69 : List Int), Sli (Value.int IntKind.u8) (1 : Nat) Bool.false (nat_lit
0) x66.1 x66.2 x66.3 x68 ∧ Sli (Value.int IntKind.u8) (1 : Nat) a.1 a.2 (Min.min a.3 (300 : Nat)) a.4 a.5 x69) ∧ x66.1 ≤ (1000000 : Nat) ∧ Min.min a.3 (300 : Nat) ≤ (1000000 :
Nat)) ∧ (((Bool.false = Bool.false ∧ nat_lit 0 = (0 : Nat) ∧ x66.1 = x66.1 ∧ x66.2 = x66.2) ∧ (a.1 = a.1 ∧ a.2 = a.2 ∧ Min.min a.3 (300 : Nat) = Min.min a.3 (300 : Nat) ∧ a.4 =
a.4) ∧ True) ∧ (True ∧ FlatL x66.3 ∧ x66.3 = x66.3) ∧ (True ∧ FlatL a.5 ∧ a.5 = a.5) ∧ True) ∧ (∀ (x70 : Unit), (∀ (x71 x72 : List Int), Sli (Value.int IntKind.u8) (1 : Nat)
Bool.false (nat_lit 0) x66.1 x66.2 x66.3 x71 → Sli (Value.int IntKind.u8) (1 : Nat) a.1 a.2 (Min.min a.3 (300 : Nat)) a.4 a.5 x72 → x71 = x72) → ∃ (x73 : Unit), True ∧ Bool.true =
Bool.true ∧ True) ∧ (∀ (x74 : Unit), (∀ (x75 x76 : List Int), Sli (Value.int IntKind.u8) (1 : Nat) Bool.false (nat_lit 0) x66.1 x66.2 x66.3 x75 → Sli (Value.int IntKind.u8) (1 :
Nat) a.1 a.2 (Min.min a.3 (300 : Nat)) a.4 a.5 x76 → x75 ≠ x76) → ∃ (x77 : Unit), True ∧ Bool.true = Bool.false ∧ True) ∧ True) ∧ True)) ∧ (¬x41.4 ≠ (0 : Int) → (True ∧ (∃ (x78 :
PX), PH (PA.mk (SA.mk x41.1.1.1 (0 : Nat) x41.1.1.2 x41.1.1.3 x41.1.1.4) (SA.mk x41.1.2.1 (0 : Nat) x41.1.2.2 x41.1.2.3 x41.1.2.4) (SA.mk x41.1.3.1 (0 : Nat) x41.1.3.2 x41.1.3.3
x41.1.3.4) x41.1.4 x41.1.5 x41.1.6 x41.1.7 x41.1.8) x78 ∧ PW (PA.mk (SA.mk x41.1.1.1 (0 : Nat) x41.1.1.2 x41.1.1.3 x41.1.1.4) (SA.mk x41.1.2.1 (0 : Nat) x41.1.2.2 x41.1.2.3
x41.1.2.4) (SA.mk x41.1.3.1 (0 : Nat) x41.1.3.2 x41.1.3.3 x41.1.3.4) x41.1.4 x41.1.5 x41.1.6 x41.1.7 x41.1.8) x78 ∧ Byts8 x78.3) ∧ x41.1.1.2 ≤ (100 : Nat) ∧ x41.1.2.2 ≤ (100 : Nat)
∧ x41.1.3.2 ≤ (100 : Nat)) ∧ ((((x41.1.1.1 = x41.1.1.1 ∧ nat_lit 0 = (0 : Nat) ∧ x41.1.1.2 = x41.1.1.2 ∧ x41.1.1.3 = x41.1.1.3) ∧ (x41.1.2.1 = x41.1.2.1 ∧ nat_lit 0 = (0 : Nat) ∧
x41.1.2.2 = x41.1.2.2 ∧ x41.1.2.3 = x41.1.2.3) ∧ (x41.1.3.1 = x41.1.3.1 ∧ nat_lit 0 = (0 : Nat) ∧ x41.1.3.2 = x41.1.3.2 ∧ x41.1.3.3 = x41.1.3.3) ∧ x41.1.4 = x41.1.4 ∧ x41.1.5 =
x41.1.5 ∧ x41.1.6 = x41.1.6 ∧ x41.1.7 = x41.1.7 ∧ x41.1.8 = x41.1.8 ∧ True) ∧ True) ∧ (True ∧ FlatL x41.1.1.4 ∧ x41.1.1.4 = x41.1.1.4) ∧ (True ∧ FlatL x41.1.2.4 ∧ x41.1.2.4 =
x41.1.2.4) ∧ (True ∧ FlatL x41.1.3.4 ∧ x41.1.3.4 = x41.1.3.4) ∧ True) ∧ (∀ (x79 : OW), (x79.2 ≤ (4000 : Nat) ∧ ∀ (x80 : PX), PH (PA.mk (SA.mk x41.1.1.1 (0 : Nat) x41.1.1.2
x41.1.1.3 x41.1.1.4) (SA.mk x41.1.2.1 (0 : Nat) x41.1.2.2 x41.1.2.3 x41.1.2.4) (SA.mk x41.1.3.1 (0 : Nat) x41.1.3.2 x41.1.3.3 x41.1.3.4) x41.1.4 x41.1.5 x41.1.6 x41.1.7 x41.1.8)
x80 → OwB x79 (enc (PA.mk (SA.mk x41.1.1.1 (0 : Nat) x41.1.1.2 x41.1.1.3 x41.1.1.4) (SA.mk x41.1.2.1 (0 : Nat) x41.1.2.2 x41.1.2.3 x41.1.2.4) (SA.mk x41.1.3.1 (0 : Nat) x41.1.3.2
x41.1.3.3 x41.1.3.4) x41.1.4 x41.1.5 x41.1.6 x41.1.7 x41.1.8) x80)) → (True ∧ (∃ (x81 : List Int), ∃ (x82 : List Int), Sli (Value.int IntKind.u8) (1 : Nat) Bool.false (nat_lit 0)
x79.1 x79.2 x79.3 x81 ∧ Sli (Value.int IntKind.u8) (1 : Nat) a.1 a.2 (Min.min a.3 (300 : Nat)) a.4 a.5 x82) ∧ x79.1 ≤ (1000000 : Nat) ∧ Min.min a.3 (300 : Nat) ≤ (1000000 : Nat)) ∧
(((Bool.false = Bool.false ∧ nat_lit 0 = (0 : Nat) ∧ x79.1 = x79.1 ∧ x79.2 = x79.2) ∧ (a.1 = a.1 ∧ a.2 = a.2 ∧ Min.min a.3 (300 : Nat) = Min.min a.3 (300 : Nat) ∧ a.4 = a.4) ∧
True) ∧ (True ∧ FlatL x79.3 ∧ x79.3 = x79.3) ∧ (True ∧ FlatL a.5 ∧ a.5 = a.5) ∧ True) ∧ (∀ (x83 : Unit), (∀ (x84 x85 : List Int), Sli (Value.int IntKind.u8) (1 : Nat) Bool.false
(nat_lit 0) x79.1 x79.2 x79.3 x84 → Sli (Value.int IntKind.u8) (1 : Nat) a.1 a.2 (Min.min a.3 (300 : Nat)) a.4 a.5 x85 → x84 = x85) → (x41.8 ≠ (0 : Int) → ∃ (x86 : Unit), True ∧
Bool.true = Bool.true ∧ True) ∧ (¬x41.8 ≠ (0 : Int) → (True ∧ (∃ (x87 : List Int), MH (MA.mk x41.5.1 (SA.mk x41.5.2.1 (0 : Nat) x41.5.2.2 x41.5.2.3 x41.5.2.4) (D8.mk x41.5.3.1
x41.5.3.2 x41.5.3.3 x41.5.3.4 x41.5.3.5 x41.5.3.6 x41.5.3.7 x41.5.3.8)) x87) ∧ x41.5.2.2 ≤ (100 : Nat)) ∧ (((x41.5.1 = x41.5.1 ∧ (x41.5.2.1 = x41.5.2.1 ∧ nat_lit 0 = (0 : Nat) ∧
x41.5.2.2 = x41.5.2.2 ∧ x41.5.2.3 = x41.5.2.3) ∧ x41.5.3.1 = x41.5.3.1 ∧ x41.5.3.2 = x41.5.3.2 ∧ x41.5.3.3 = x41.5.3.3 ∧ x41.5.3.4 = x41.5.3.4 ∧ x41.5.3.5 = x41.5.3.5 ∧ x41.5.3.6 =
x41.5.3.6 ∧ x41.5.3.7 = x41.5.3.7 ∧ x41.5.3.8 = x41.5.3.8 ∧ True) ∧ True) ∧ (True ∧ FlatL x41.5.2.4 ∧ x41.5.2.4 = x41.5.2.4) ∧ True) ∧ (∀ (x88 : OW), (x88.2 ≤ (3000 : Nat) ∧ ∀ (x89
: List Int), MH (MA.mk x41.5.1 (SA.mk x41.5.2.1 (0 : Nat) x41.5.2.2 x41.5.2.3 x41.5.2.4) (D8.mk x41.5.3.1 x41.5.3.2 x41.5.3.3 x41.5.3.4 x41.5.3.5 x41.5.3.6 x41.5.3.7 x41.5.3.8))
x89 → OwB x88 (encM x41.5.1 x89 (D8.mk x41.5.3.1 x41.5.3.2 x41.5.3.3 x41.5.3.4 x41.5.3.5 x41.5.3.6 x41.5.3.7 x41.5.3.8))) → (True ∧ (∃ (x90 : List Int), ∃ (x91 : List Int), Sli
(Value.int IntKind.u8) (1 : Nat) Bool.false (nat_lit 0) x88.1 x88.2 x88.3 x90 ∧ Sli (Value.int IntKind.u8) (1 : Nat) a.1 a.2 (Min.min a.3 (300 : Nat)) a.4 a.5 x91) ∧ x88.1 ≤
(1000000 : Nat) ∧ Min.min a.3 (300 : Nat) ≤ (1000000 : Nat)) ∧ (((Bool.false = Bool.false ∧ nat_lit 0 = (0 : Nat) ∧ x88.1 = x88.1 ∧ x88.2 = x88.2) ∧ (a.1 = a.1 ∧ a.2 = a.2 ∧
Min.min a.3 (300 : Nat) = Min.min a.3 (300 : Nat) ∧ a.4 = a.4) ∧ True) ∧ (True ∧ FlatL x88.3 ∧ x88.3 = x88.3) ∧ (True ∧ FlatL a.5 ∧ a.5 = a.5) ∧ True) ∧ (∀ (x92 : Unit), (∀ (x93
x94 : List Int), Sli (Value.int IntKind.u8) (1 : Nat) Bool.false (nat_lit 0) x88.1 x88.2 x88.3 x93 → Sli (Value.int IntKind.u8) (1 : Nat) a.1 a.2 (Min.min a.3 (300 : Nat)) a.4 a.5
x94 → x93 = x94) → ∃ (x95 : Unit), True ∧ Bool.true = Bool.true ∧ True) ∧ (∀ (x96 : Unit), (∀ (x97 x98 : List Int), Sli (Value.int IntKind.u8) (1 : Nat) Bool.false (nat_lit 0)
x88.1 x88.2 x88.3 x97 → Sli (Value.int IntKind.u8) (1 : Nat) a.1 a.2 (Min.min a.3 (300 : Nat)) a.4 a.5 x98 → x97 ≠ x98) → ∃ (x99 : Unit), True ∧ Bool.true = Bool.false ∧ True) ∧
True) ∧ True)) ∧ (∀ (x100 : Unit), (∀ (x101 x102 : List Int), Sli (Value.int IntKind.u8) (1 : Nat) Bool.false (nat_lit 0) x79.1 x79.2 x79.3 x101 → Sli (Value.int IntKind.u8) (1 :
Nat) a.1 a.2 (Min.min a.3 (300 : Nat)) a.4 a.5 x102 → x101 ≠ x102) → ∃ (x103 : Unit), True ∧ Bool.true = Bool.false ∧ True) ∧ True) ∧ True)) ∧ True) ∧ (∀ (x104 : Unit), (∀ (x105
x106 : List Int), Sli (Value.int IntKind.u8) (1 : Nat) Bool.false (nat_lit 0) x53.1 x53.2 x53.3 x105 → Sli (Value.int IntKind.u8) (1 : Nat) Bool.false (nat_lit 0) (List.length
x56.2) x56.1 x56.2 x106 → x105 ≠ x106) → (True ∧ True ∧ True ∧ True ∧ True ∧ True ∧ (W_G_reads_0 x41 = W_G_reads_0 x41 ∧ True) ∧ True ∧ True ∧ True ∧ True ∧ True ∧ True ∧ True ∧
True ∧ True ∧ True ∧ True ∧ (W_G_reads_1 x41 = W_G_reads_1 x41 ∧ True) ∧ True ∧ True ∧ True ∧ True ∧ True) ∧ ∃ (x107 : Unit), True ∧ Bool.true = Bool.false ∧ True) ∧ True) ∧ True)
∧ True)) ∧ (x48.1 = Bool.false → (True ∧ True ∧ True ∧ True ∧ True ∧ True ∧ (W_G_reads_0 x41 = W_G_reads_0 x41 ∧ True) ∧ True ∧ True ∧ True ∧ True ∧ True ∧ True ∧ True ∧ True ∧
True ∧ True ∧ True ∧ True ∧ True ∧ True ∧ True ∧ True ∧ True) ∧ ∃ (x108 : Unit), True ∧ Bool.true = Bool.false ∧ True)) ∧ True) ∧ True)) := by kernel_rfl
def zPR : PR := ⟨⟨true, 0, 0, []⟩, ⟨true, 0, 0, []⟩, ⟨true, 0, 0, []⟩, 0, 0, 0, 0, 0⟩
def PR.pa (p : PR) : PA := ⟨⟨p.v.n, 0, p.v.l, p.v.k, p.v.c⟩, ⟨p.g.n, 0, p.g.l, p.g.k, p.g.c⟩, ⟨p.t.n, 0, p.t.l, p.t.k, p.t.c⟩, p.r0, p.r1, p.r2, p.r3, p.r4⟩
def encZ : List Int := enc zPR.pa ⟨[], [], []⟩
structure GoodP (xs : List Int) (p : PR) (e : Int) (x : PX) : Prop where
  h : PH p.pa x
  w : PW p.pa x
  b : Byts8 x.tips
  l1 : p.v.l ≤ 64
  l2 : p.g.l ≤ 8
  l3 : p.t.l ≤ 8
  f1 : FlatL p.v.c
  f2 : FlatL p.g.c
  f3 : FlatL p.t.c
  enc : enc p.pa x = if e = 0 then xs else encZ
theorem isP.good {xs : List Int} {p : PR} {e : Int} (hb : Byts8 xs) (h : isP xs p e) : ∃ x : PX, GoodP xs p e x := by
  by_cases he : e = 0
  · obtain ⟨⟨h1, h2, h3⟩, r0, r1, r2, r3, r4⟩ := h.ok he
    have hc := decP_can hb (h.er.symm.trans he)
    obtain ⟨k, k1, k2⟩ := hc.t
    have hk : p.t.l = k := by have := h3.l; omega
    have f2 := h2.he.flatB
    have f3 := h3.he.flat
    refine ⟨⟨(decP xs).v, (decP xs).g, (decP xs).t⟩, ⟨h1.sli, h2.sli (by decide) f2, h3.sli (by decide) f3⟩, ⟨hc.w, ?_, ?_, ?_, ?_, ?_⟩, hc.b, by have := h1.l; have := hc.v; omega, by have := h2.l; have := hc.g; omega, by omega, h1.flat, f2, f3, ?_⟩
    · show -9223372036854775808 ≤ p.r0 ∧ p.r0 ≤ 9223372036854775807; rw [r0]; exact hc.r0
    · show -9223372036854775808 ≤ p.r1 ∧ p.r1 ≤ 9223372036854775807; rw [r1]; exact hc.r1
    · show -9223372036854775808 ≤ p.r2 ∧ p.r2 ≤ 9223372036854775807; rw [r2]; exact hc.r2
    · show -9223372036854775808 ≤ p.r3 ∧ p.r3 ≤ 9223372036854775807; rw [r3]; exact hc.r3
    · show 0 ≤ p.r4 ∧ p.r4 < 18446744073709551616; rw [r4]; exact hc.r4
    · rw [if_pos he]; exact hc.enc p.pa (by show p.t.l * 8 = _; omega) r0 r1 r2 r3 r4
  · obtain rfl := h.no he
    refine ⟨⟨[], [], []⟩, ⟨.none, .none, .none⟩, ⟨fun n hn => absurd hn (by simp), ?_, ?_, ?_, ?_, ?_⟩, fun n hn => absurd hn (by simp), Nat.zero_le _, Nat.zero_le _, Nat.zero_le _, flatL_nil, flatL_nil, flatL_nil, ?_⟩
    · show (-9223372036854775808 : Int) ≤ 0 ∧ (0 : Int) ≤ 9223372036854775807; decide
    · show (-9223372036854775808 : Int) ≤ 0 ∧ (0 : Int) ≤ 9223372036854775807; decide
    · show (-9223372036854775808 : Int) ≤ 0 ∧ (0 : Int) ≤ 9223372036854775807; decide
    · show (-9223372036854775808 : Int) ≤ 0 ∧ (0 : Int) ≤ 9223372036854775807; decide
    · show (0 : Int) ≤ 0 ∧ (0 : Int) < 18446744073709551616; decide
    · rw [if_neg he]; rfl
structure GoodM (xs : List Int) (m : MR) (e : Int) (ys : List Int) : Prop where
  h : MH ⟨m.t, ⟨m.s.n, 0, m.s.l, m.s.k, m.s.c⟩, m.d⟩ ys
  l : m.s.l ≤ 4
  f : FlatL m.s.c
  enc : encM m.t ys m.d = if e = 0 then xs else encM false [] d80
theorem isM.good {xs : List Int} {m : MR} {e : Int} (hb : Byts8 xs) (h : isM xs m e) : ∃ ys : List Int, GoodM xs m e ys := by
  by_cases he : e = 0
  · obtain ⟨h1, h2, h3⟩ := h.ok he
    have hc := decM_can hb (h.er.symm.trans he)
    refine ⟨(decM xs).xs, h1.mh hc.w (by rw [h3]; exact hc.d), by have := h1.l; have := hc.l; omega, h1.flat, ?_⟩
    rw [if_pos he, h2, h3]; exact hc.enc
  · obtain rfl := h.no he
    exact ⟨[], ⟨.none, fun n hn => absurd hn (by simp), d80_ok⟩, Nat.zero_le _, flatL_nil, by rw [if_neg he]⟩
theorem t_of : SpecOK Tryz.prog T_of.spec := s_of
theorem t_same17 : SpecOK Tryz.prog T_same17.spec := s_same17
theorem t_encP : SpecOK Tryz.prog T_encP.spec := s_encP
theorem g_reads (a : SA) (xs : List Int) (hx : Sli (Value.int .u8) 1 a.n a.o (min a.l 300) a.k a.c xs) (hb : Byts8 xs) (hn : a.n = true → a.l = 0 ∧ a.k = 0) (hk : a.l ≤ a.k) : G_reads a xs := by
  have fx := hx.flat
  obtain ⟨w0, w1, w2, w3, w4, w5, w6, w7, w8⟩ := gl
  have m1 : min a.l 300 ≤ 100000 := by omega
  have m2 : min a.l 300 ≤ 1000000 := by omega
  have okP : ∀ p : PR, (∀ ys : List Int, Sli (Value.int .u8) 1 a.n a.o (min a.l 300) a.k a.c ys → endC ys (r4C ys).at_ (r4C ys).e = 0 ∧ (LC p.v (dWC ys).ws ∧ LF Value.bool 1 p.g (goneL (dGC ys).ns) ∧ LF (Value.int .u8) 8 p.t (tipsL (dTC ys).ns)) ∧ p.r0 = unfI (r0C ys).n ∧ p.r1 = unfI (r1C ys).n ∧ p.r2 = unfI (r2C ys).n ∧ p.r3 = unfI (r3C ys).n ∧ p.r4 = (r4C ys).n) → isP xs p 0 := fun p h => ⟨(h xs hx).1.symm, fun _ => (h xs hx).2, fun h => absurd rfl h⟩
  have noP : ∀ e : Int, (e ≠ 0 ∧ ∀ ys : List Int, Sli (Value.int .u8) 1 a.n a.o (min a.l 300) a.k a.c ys → endC ys (r4C ys).at_ (r4C ys).e = e) → isP xs zPR e := fun e h => ⟨(h.2 xs hx).symm, fun h0 => absurd h0 h.1, fun _ => rfl⟩
  have okM : ∀ m : MR, (∀ ys : List Int, Sli (Value.int .u8) 1 a.n a.o (min a.l 300) a.k a.c ys → ∃ zs : List Int, LC m.s zs ∧ decM ys = ⟨0, m.t, zs, m.d⟩) → isM xs m 0 := fun m h => by
    obtain ⟨zs, h1, h2⟩ := h xs hx
    exact ⟨by rw [h2], fun _ => by rw [h2]; exact ⟨h1, rfl, rfl⟩, fun h => absurd rfl h⟩
  have noM : ∀ e : Int, (e ≠ 0 ∧ ∀ ys : List Int, Sli (Value.int .u8) 1 a.n a.o (min a.l 300) a.k a.c ys → (decM ys).e = e) → isM xs ⟨false, ⟨true, 0, 0, []⟩, d80⟩ e := fun e h => ⟨(h.2 xs hx).symm, fun h0 => absurd h0 h.1, fun _ => rfl⟩
  have f0 := flatL_nil
  rw [vc_reads]
  refine ⟨fun x0 e0 x1 e1 => ⟨fun hnn => ⟨?_, (), trivial, ?_⟩, fun hnn => ⟨?_, fun x3 x4 x5 e3 e4 e5 => ⟨(), trivial, ?_⟩⟩⟩, fun _ _ => ?_⟩
  · have := hn hnn; exact ⟨rfl, by omega⟩
  · have := hn hnn
    refine ⟨⟨⟨hnn, by omega, this.2⟩, trivial⟩, ?_⟩
    repeat' first
      | with_reducible apply And.intro
      | exact trivial
      | exact rfl
      | assumption
  · refine ⟨⟨Int.le_refl _, by omega, by omega⟩, fun h => absurd h (by decide)⟩
  · refine ⟨⟨⟨hnn, by rw [e3]; simp, by omega, by omega⟩, trivial⟩, ?_⟩
    repeat' first
      | with_reducible apply And.intro
      | exact trivial
      | exact rfl
      | assumption
  refine ⟨⟨⟨trivial, ⟨xs, hx, hb⟩, m1⟩, ?_, fun r hr => ⟨⟨r, 0⟩, okP r hr, ?_⟩, fun r hr => ⟨⟨zPR, r.e⟩, noP r.e hr, ?_⟩, trivial⟩, fun b hj => ?_⟩
  · repeat' first
      | with_reducible apply And.intro
      | exact trivial
      | exact rfl
      | assumption
  · have k := (okP r hr).good hb
    obtain ⟨_, k⟩ := k
    have g1 := k.f1
    have g2 := k.f2
    have g3 := k.f3
    repeat' first
      | with_reducible apply And.intro
      | exact trivial
      | exact rfl
      | assumption
  · have z := trivial
    repeat' first
      | with_reducible apply And.intro
      | exact trivial
      | exact rfl
      | assumption
  refine ⟨⟨⟨trivial, ⟨xs, hx, hb⟩, m1⟩, ?_, fun r hr => ⟨⟨b.p, b.e, r, 0⟩, ⟨hj, okP r hr⟩, ?_⟩, fun r hr => ⟨⟨b.p, b.e, zPR, r.e⟩, ⟨hj, noP r.e hr⟩, ?_⟩, trivial⟩, fun b hj => ?_⟩
  · repeat' first
      | with_reducible apply And.intro
      | exact trivial
      | exact rfl
      | assumption
  · have k := (okP r hr).good hb
    obtain ⟨_, k⟩ := k
    have g1 := k.f1
    have g2 := k.f2
    have g3 := k.f3
    obtain ⟨_, kp⟩ := (hj).good hb
    have p1 := kp.f1
    have p2 := kp.f2
    have p3 := kp.f3
    repeat' first
      | with_reducible apply And.intro
      | exact trivial
      | exact rfl
      | assumption
  · have z := trivial
    obtain ⟨_, kp⟩ := (hj).good hb
    have p1 := kp.f1
    have p2 := kp.f2
    have p3 := kp.f3
    repeat' first
      | with_reducible apply And.intro
      | exact trivial
      | exact rfl
      | assumption
  refine ⟨⟨⟨trivial, ⟨xs, hx, hb⟩, m1⟩, ?_, fun r hr => ⟨⟨b.p, b.e, b.q, b.f, r, 0⟩, ⟨hj.1, hj.2, okM r hr⟩, ?_⟩, fun r hr => ⟨⟨b.p, b.e, b.q, b.f, ⟨false, ⟨true, 0, 0, []⟩, d80⟩, r.e⟩, ⟨hj.1, hj.2, noM r.e hr⟩, ?_⟩, trivial⟩, fun b hj => ?_⟩
  · repeat' first
      | with_reducible apply And.intro
      | exact trivial
      | exact rfl
      | assumption
  · obtain ⟨_, k⟩ := (okM r hr).good hb
    have g1 := k.f
    obtain ⟨_, kp⟩ := (hj.1).good hb
    obtain ⟨_, kq⟩ := (hj.2).good hb
    have p1 := kp.f1
    have p2 := kp.f2
    have p3 := kp.f3
    have q1 := kq.f1
    have q2 := kq.f2
    have q3 := kq.f3
    repeat' first
      | with_reducible apply And.intro
      | exact trivial
      | exact rfl
      | assumption
  · have z := trivial
    obtain ⟨_, kp⟩ := (hj.1).good hb
    obtain ⟨_, kq⟩ := (hj.2).good hb
    have p1 := kp.f1
    have p2 := kp.f2
    have p3 := kp.f3
    have q1 := kq.f1
    have q2 := kq.f2
    have q3 := kq.f3
    repeat' first
      | with_reducible apply And.intro
      | exact trivial
      | exact rfl
      | assumption
  refine ⟨⟨⟨trivial, ⟨xs, hx, hb⟩, m1⟩, ?_, fun r hr => ⟨⟨b.p, b.e, b.q, b.f, b.m, b.g, r, 0⟩, ⟨hj.1, hj.2.1, hj.2.2, okM r hr⟩, ?_⟩, fun r hr => ⟨⟨b.p, b.e, b.q, b.f, b.m, b.g, ⟨false, ⟨true, 0, 0, []⟩, d80⟩, r.e⟩, ⟨hj.1, hj.2.1, hj.2.2, noM r.e hr⟩, ?_⟩, trivial⟩, fun b hj => ?_⟩
  · repeat' first
      | with_reducible apply And.intro
      | exact trivial
      | exact rfl
      | assumption
  · obtain ⟨_, k⟩ := (okM r hr).good hb
    have g1 := k.f
    obtain ⟨_, kp⟩ := (hj.1).good hb
    obtain ⟨_, kq⟩ := (hj.2.1).good hb
    obtain ⟨_, km⟩ := (hj.2.2).good hb
    have p1 := kp.f1
    have p2 := kp.f2
    have p3 := kp.f3
    have q1 := kq.f1
    have q2 := kq.f2
    have q3 := kq.f3
    have mf := km.f
    repeat' first
      | with_reducible apply And.intro
      | exact trivial
      | exact rfl
      | assumption
  · have z := trivial
    obtain ⟨_, kp⟩ := (hj.1).good hb
    obtain ⟨_, kq⟩ := (hj.2.1).good hb
    obtain ⟨_, km⟩ := (hj.2.2).good hb
    have p1 := kp.f1
    have p2 := kp.f2
    have p3 := kp.f3
    have q1 := kq.f1
    have q2 := kq.f2
    have q3 := kq.f3
    have mf := km.f
    repeat' first
      | with_reducible apply And.intro
      | exact trivial
      | exact rfl
      | assumption
  obtain ⟨p, e, q, f, m, g, k, h⟩ := b
  obtain ⟨hp, hq, hm, hh⟩ := hj
  dsimp only at hp hq hm hh ⊢
  have ef : e = f := hp.er.trans hq.er.symm
  have gh : g = h := hm.er.trans hh.er.symm
  subst ef gh
  obtain ⟨x, kp⟩ := hp.good hb
  obtain ⟨y, kq⟩ := hq.good hb
  obtain ⟨us, km⟩ := hm.good hb
  obtain ⟨vs, kk⟩ := hh.good hb
  have p1 := kp.f1
  have p2 := kp.f2
  have p3 := kp.f3
  have q1 := kq.f1
  have q2 := kq.f2
  have q3 := kq.f3
  have mf := km.f
  have kf := kk.f
  have lp1 := kp.l1
  have lp2 := kp.l2
  have lp3 := kp.l3
  have lq1 := kq.l1
  have lq2 := kq.l2
  have lq3 := kq.l3
  have lm := km.l
  have lk := kk.l
  refine ⟨fun h => absurd rfl h, fun _ => ⟨⟨trivial, ⟨x, kp.h⟩, by omega⟩, ?_, fun o ho => ?_, trivial⟩⟩
  · repeat' first
      | with_reducible apply And.intro
      | exact trivial
      | exact rfl
      | assumption
  have ho := ho _ kp.h.p3
  have fo := ho.flat
  have h1 : PH ⟨⟨p.v.n, 0, p.v.l, p.v.k, p.v.c⟩, ⟨p.g.n, 0, p.g.l, p.g.k, p.g.c⟩, ⟨o.n, 0, p.t.l, o.k, o.c⟩, p.r0, p.r1, p.r2, p.r3, p.r4⟩ x := ⟨kp.h.p1, kp.h.p2, ho⟩
  have v1 : PW ⟨⟨p.v.n, 0, p.v.l, p.v.k, p.v.c⟩, ⟨p.g.n, 0, p.g.l, p.g.k, p.g.c⟩, ⟨o.n, 0, p.t.l, o.k, o.c⟩, p.r0, p.r1, p.r2, p.r3, p.r4⟩ x := ⟨kp.w.v, kp.w.r0, kp.w.r1, kp.w.r2, kp.w.r3, kp.w.r4⟩
  refine ⟨⟨trivial, ⟨⟨x, h1, v1⟩, y, kq.h, kq.w⟩, ⟨by omega, by omega, by omega⟩, by omega, by omega, by omega⟩, ?_, fun b hbb => ⟨fun _ => ?_, fun hf => ?_⟩, trivial⟩
  · repeat' first
      | with_reducible apply And.intro
      | exact trivial
      | exact rfl
      | assumption
  case refine_3 =>
    have := (hbb x y h1 kq.h).2 (kp.enc.trans kq.enc.symm)
    exact absurd (this.symm.trans hf) (by decide)
  refine ⟨fun h => absurd rfl h, fun _ => ⟨⟨trivial, ⟨us, km.h⟩, by omega⟩, ?_, fun s hs => ?_, trivial⟩⟩
  · repeat' first
      | with_reducible apply And.intro
      | exact trivial
      | exact rfl
      | assumption
  obtain ⟨s3, hs⟩ := hs
  have hs : OwB s (encM m.t us m.d) := hs us km.h
  have fs := hs.flat
  have ls := hs.le
  refine ⟨⟨trivial, ⟨vs, kk.h⟩, by omega⟩, ?_, fun z hz => ?_, trivial⟩
  · repeat' first
      | with_reducible apply And.intro
      | exact trivial
      | exact rfl
      | assumption
  obtain ⟨⟨z1, z2⟩, hz⟩ := hz
  have hz : HE .u8 z.c (encM k.t vs k.d) := hz vs kk.h
  have fz := hz.flat
  have sz : Sli (Value.int .u8) 1 false 0 z.c.length z.k z.c (encM k.t vs k.d) := ⟨hz.at_, by have := hz.len; omega, (fun h => nomatch h), fun _ => by omega, z1, fz⟩
  refine ⟨⟨trivial, ⟨_, _, hs.sli, sz⟩, by omega, by omega⟩, ?_, fun _ _ => ⟨?_, ⟨trivial, trivial⟩, ?_, fun _ _ => ⟨fun he => ?_, fun he => ?_⟩, trivial⟩, fun _ hne => absurd (km.enc.trans kk.enc.symm) (hne _ _ hs.sli sz), trivial⟩
  · repeat' first
      | with_reducible apply And.intro
      | exact trivial
      | exact rfl
      | assumption
  · repeat' first
      | with_reducible apply And.intro
      | exact trivial
      | exact rfl
      | assumption
  · repeat' first
      | with_reducible apply And.intro
      | exact trivial
      | exact rfl
      | assumption
  · refine ⟨fun _ => ⟨(), trivial, rfl, trivial⟩, fun hg => ⟨⟨trivial, ⟨us, km.h⟩, by omega⟩, ?_, fun o ho => ?_, trivial⟩⟩
    · repeat' first
        | with_reducible apply And.intro
        | exact trivial
        | exact rfl
        | assumption
    obtain ⟨ho3, ho⟩ := ho
    have ho : OwB o (encM m.t us m.d) := ho us km.h
    have eo : encM m.t us m.d = xs := by rw [km.enc, if_pos (Decidable.not_not.1 hg)]
    rw [eo] at ho
    have fo := ho.flat
    have lo := ho.le
    refine ⟨⟨trivial, ⟨_, _, ho.sli, hx⟩, by omega, m2⟩, ?_, fun _ _ => ⟨(), trivial, rfl, trivial⟩, fun _ hne => absurd rfl (hne _ _ ho.sli hx), trivial⟩
    · repeat' first
        | with_reducible apply And.intro
        | exact trivial
        | exact rfl
        | assumption
  · refine ⟨⟨trivial, ⟨x, kp.h, kp.w, kp.b⟩, by omega, by omega, by omega⟩, ?_, fun o ho => ?_, trivial⟩
    · repeat' first
        | with_reducible apply And.intro
        | exact trivial
        | exact rfl
        | assumption
    obtain ⟨ho3, ho⟩ := ho
    have ho : OwB o (enc p.pa x) := ho x kp.h
    have eo : enc p.pa x = xs := by rw [kp.enc, if_pos (Decidable.not_not.1 he)]
    rw [eo] at ho
    have fo2 := ho.flat
    have lo := ho.le
    refine ⟨⟨trivial, ⟨_, _, ho.sli, hx⟩, by omega, m2⟩, ?_, fun _ _ => ?_, fun _ hne => absurd rfl (hne _ _ ho.sli hx), trivial⟩
    · repeat' first
        | with_reducible apply And.intro
        | exact trivial
        | exact rfl
        | assumption
    · refine ⟨fun _ => ⟨(), trivial, rfl, trivial⟩, fun hg => ⟨⟨trivial, ⟨us, km.h⟩, by omega⟩, ?_, fun o ho => ?_, trivial⟩⟩
      · repeat' first
          | with_reducible apply And.intro
          | exact trivial
          | exact rfl
          | assumption
      obtain ⟨ho3, ho⟩ := ho
      have ho : OwB o (encM m.t us m.d) := ho us km.h
      have eo : encM m.t us m.d = xs := by rw [km.enc, if_pos (Decidable.not_not.1 hg)]
      rw [eo] at ho
      have fo := ho.flat
      have lo := ho.le
      refine ⟨⟨trivial, ⟨_, _, ho.sli, hx⟩, by omega, m2⟩, ?_, fun _ _ => ⟨(), trivial, rfl, trivial⟩, fun _ hne => absurd rfl (hne _ _ ho.sli hx), trivial⟩
      · repeat' first
          | with_reducible apply And.intro
          | exact trivial
          | exact rfl
          | assumption
theorem s_reads (a : SA) (xs : List Int) (hx : Sli (Value.int .u8) 1 a.n a.o a.l a.k a.c xs) (hb : Byts8 xs) : ∃ B, FnSem Tryz.prog 6 (S_reads.args a) (mem (S_reads.R a) S_reads.n) (.bool true) B := by
  have hc : Sli (Value.int .u8) 1 a.n a.o (min a.l 300) a.k a.c (xs.take 300) := Sli.cut (q := 300) hx rfl
  have hb2 : Byts8 (xs.take 300) := fun z hz => hb z (List.mem_of_mem_take hz)
  obtain ⟨v, R', n', hK, _, h⟩ := specD_at (S := S_reads) (an := [some (joins [(2, j_r0 a), (3, j_r1 a (xs.take 300)), (4, j_r2 a (xs.take 300)), (5, j_r3 a (xs.take 300)), (6, j_r4 a (xs.take 300))])]) envOK (cwD_ok s_decP (cwD_ok s_decP2 (cwD_ok s_decM (cwD_ok s_decM2 (cwD_ok t_of (cwD_ok t_same17 (cwD_ok t_encP (cwD_ok s_encM (cwD_ok s_encM2 (cwD_ok s_sameB (cwD_ok s_known cw0_ok))))))))))) (fun _ => g_reads a (xs.take 300) hc hb2 hx.nil hx.cap) (fun v _ _ => v = .bool true) ⟨xs, hx, hb⟩ ⟨fun _ _ => rfl, trivial⟩
  subst hK
  exact ⟨_, h⟩
end Go.Proofs.YtalbjjimnhldfaaGreatDoor
