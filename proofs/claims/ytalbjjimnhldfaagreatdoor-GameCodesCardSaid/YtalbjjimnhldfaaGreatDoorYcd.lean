/- The law of codes: what is to be shown. -/
import Derived.Test.YtalbjjimnhldfaaGreatDoorYdc
import Derived.Test.YtalbjjimnhldfaaGreatDoorYdcQ
import Derived.Test.YtalbjjimnhldfaaGreatDoorYeq
import Derived.Test.YtalbjjimnhldfaaGreatDoorYhr
import Derived.Test.YtalbjjimnhldfaaGreatDoorYof
import Derived.Test.YtalbjjimnhldfaaGreatDoorYml0
import Derived.Test.YtalbjjimnhldfaaGreatDoorYcd0
section
set_option maxRecDepth 100000
namespace Go.Proofs.YtalbjjimnhldfaaGreatDoor
open Go.Ev
-- keep rdC rsC wdC wsC dvC dWC dgC dGC dtC dTC r0C r1C r2C r3C r4C endC unfI lookN valN lead RI q2C tipsL goneL num foldI dnum frm Go.Ev.Sli Byts8 decM decP OwB LC LF encM encV MH PH PW isP enc ofC RollsEq cutX cells0 cells1 cells2 cells4 cells5 cells6 cells8 cells9 cells10
structure isP (xs : List Int) (p : PR) (e : Int) : Prop where
  er : e = (decP xs).e
  ok : e = 0 → (LC p.v (decP xs).v ∧ LF Value.bool 1 p.g (decP xs).g ∧ LF (Value.int .u8) 8 p.t (decP xs).t) ∧ p.r0 = (decP xs).r0 ∧ p.r1 = (decP xs).r1 ∧ p.r2 = (decP xs).r2 ∧ p.r3 = (decP xs).r3 ∧ p.r4 = (decP xs).r4
  no : e ≠ 0 → p = ⟨⟨true, 0, 0, []⟩, ⟨true, 0, 0, []⟩, ⟨true, 0, 0, []⟩, 0, 0, 0, 0, 0⟩
structure PAt where
  p : PA
  o : PA
  n : Int
structure F1 where
  b : OW
structure F2 where
  b : OW
  p : PR
  e : Int
structure F3 where
  b : OW
  p : PR
  e : Int
  q : PR
  f : Int
def cutX (x : PX) : PX := ⟨x.vars.take 70, x.gone.take 10, x.tips.take 80⟩
noncomputable section
abbrev cutA (a : PA) : PA := ⟨⟨a.s1.n, a.s1.o, min a.s1.l 70, a.s1.k, a.s1.c⟩, ⟨a.s2.n, a.s2.o, min a.s2.l 10, a.s2.k, a.s2.c⟩, ⟨a.s3.n, a.s3.o, min a.s3.l 10, a.s3.k, a.s3.c⟩, a.r0, a.r1, a.r2, a.r3, a.r4⟩
def T_of : SpecD := { S_of with find := fun l A => paK A 12 (agv (lv l 0)) fun (a : PA) r => some (a, r) }
def T_enc : SpecD := { S_enc with find := fun l A => paK A 12 (agv (lv l 0)) fun (a : PA) r => some (a, r) }
def T_cut : SpecD := { S_cut with find := fun l A => paK A 12 (agv (lv l 0)) fun (a : PA) r => some (a, r) }
def T_clone : SpecD := { S_clone with find := fun l A => paK A 12 (agv (lv l 0)) fun (a : PA) r => some (a, r) }
def T_same17 : SpecD := { S_same17 with find := fun l A => paK A 12 (agv (lv l 0)) fun a r => paK A (12 + 3) (agv (lv l 1)) fun b q => some ((⟨a, b⟩ : P2), r ++ q) }
abbrev cells (a : PA) (i : Nat) : List Value := a.s1.v i :: a.s2.v (i + 1) :: a.s3.v (i + 2) :: rolls a
abbrev pR1 (p : PR) (i : Nat) : List (Nat × PO) := [(i, .p (.row (p.w (i + 1)) 37 .own)), (i + 1, .f p.v.c 21 (.grown p.v.k)), (i + 2, .f p.g.c 4 (.grown p.g.k)), (i + 3, .f p.t.c 29 (.grown p.t.k))]
abbrev pR2 (p : PR) (i : Nat) : List (Nat × PO) := [(i, .p (.row (p.w (i + 1)) 66 .own)), (i + 1, .f p.v.c 21 (.grown p.v.k)), (i + 2, .f p.g.c 4 (.grown p.g.k)), (i + 3, .f p.t.c 28 (.grown p.t.k))]
def pN (s : St) (t i : Nat) : List (Nat × Nat) := renP i (tv s t) ++ paN (i + 1) (rowO s.A (ptB (tv s t)))
abbrev ptr (i : Nat) : Value := .pointer (some ⟨i, 0, none⟩)
abbrev inR (a : PAt) : List (Nat × PO) := a.p.R 12 29 ++ (a.o.R (12 + 3) 29 ++ globR)
abbrev boxP (a : PAt) : Nat × PO := (12 + 6, .p (.row (cells (cutA a.p) 12) 37 .own))
abbrev boxO (a : PAt) : Nat × PO := (12 + 7, .p (.row (cells (cutA a.o) (12 + 3)) 37 .own))
abbrev bR (b : OW) : Nat × PO := (12 + 8, .f b.c 5 .own)
abbrev sl0 (a : PAt) (b : OW) : List (Nat × Value) := [(2, tgI .i64 a.n), (3, ptr (12 + 6)), (4, ptr (12 + 7)), (7, tgS (12 + 8) 0 b.l b.k)]
def nB (s : St) : List (Nat × Nat) := renP (12 + 6) (tv s 3) ++ (renP (12 + 7) (tv s 4) ++ renS (12 + 8) (tv s 7))
abbrev encO (a : PAt) (x : PX) (b : OW) : Prop := b.k ≤ 4000 ∧ OwB b (enc (cutA a.p) (cutX x))
def j_c3 (a : PAt) (x : PX) : JA where
  β := F1
  at_ b := ⟨sl0 a b.b, boxP a :: boxO a :: bR b.b :: inR a, 12 + 9⟩
  J b := encO a x b.b
  ren s := nB s
def j_c4 (a : PAt) (x : PX) : JA where
  β := F2
  at_ b := ⟨sl0 a b.b ++ [(8, ptr (12 + 9)), (9, tgI .i64 b.e)], boxP a :: boxO a :: bR b.b :: (pR1 b.p (12 + 9) ++ inR a), 12 + 13⟩
  J b := encO a x b.b ∧ isP (enc (cutA a.p) (cutX x)) b.p b.e
  ren s := nB s ++ pN s 8 (12 + 9)
def j_c5 (a : PAt) (x : PX) : JA where
  β := F3
  at_ b := ⟨sl0 a b.b ++ [(8, ptr (12 + 9)), (9, tgI .i64 b.e), (10, ptr (12 + 13)), (11, tgI .i64 b.f)], boxP a :: boxO a :: bR b.b :: (pR1 b.p (12 + 9) ++ (pR2 b.q (12 + 13) ++ inR a)), 12 + 17⟩
  J b := encO a x b.b ∧ isP (enc (cutA a.p) (cutX x)) b.p b.e ∧ isP (enc (cutA a.p) (cutX x)) b.q b.f
  ren s := nB s ++ (pN s 8 (12 + 9) ++ pN s 10 (12 + 13))
def j_c7 (a : PAt) (x : PX) : JA where
  β := F1
  at_ b := ⟨[(2, tgI .i64 a.n), (3, ptr (12 + 6)), (7, tgS (12 + 8) 0 b.b.l b.b.k)], boxP a :: bR b.b :: inR a, 12 + 9⟩
  J b := encO a x b.b
  ren s := renP (12 + 6) (tv s 3) ++ renS (12 + 8) (tv s 7)
def S_codes : SpecD where
  f := 5
  α := PAt
  args a := [a.p.v 12, a.o.v (12 + 3), tgI .i64 a.n]
  R a := inR a
  n := 12 + 6
  pre a := (∃ x, PH a.p x ∧ PW a.p x ∧ Byts8 x.tips) ∧ (∃ y, PH a.o y ∧ PW a.o y ∧ Byts8 y.tips) ∧ (-9223372036854775808 ≤ a.n ∧ a.n ≤ 9223372036854775807)
  outs := [⟨Unit, fun _ _ => True, fun _ _ => .bool true, fun _ _ => [], fun _ _ => 12 + 6, fun _ _ => []⟩]
  pick _ _ := 0
  find l A := paK A 12 (agv (lv l 0)) fun p r => paK A (12 + 3) (agv (lv l 1)) fun o q => wI (lv l 2) fun n => some (⟨p, o, n⟩, r ++ q)
def cwCodes : CW := cwD Tryz.prog T_cut (cwD Tryz.prog T_encP (cwD Tryz.prog S_decP (cwD Tryz.prog T_of (cwD Tryz.prog T_enc (cwD Tryz.prog S_decP2g (cwD Tryz.prog S_sameB (cwD Tryz.prog S_gof (cwD Tryz.prog S_hofB (cwD Tryz.prog T_same17 (cwD Tryz.prog S_gsame (cwD Tryz.prog T_clone (cwD Tryz.prog S_known cw0))))))))))))
def G_codes (a : PAt) (x : PX) : Prop := fnW Tryz.prog E0 cwCodes [some (joins [(3, j_c3 a x), (4, j_c4 a x), (5, j_c5 a x), (7, j_c7 a x)])] S_codes.f (S_codes.args a) (mem (S_codes.R a) S_codes.n) (endD Tryz.prog S_codes a)
end
end Go.Proofs.YtalbjjimnhldfaaGreatDoor
end

/- The law of codes: it is so. -/
set_option maxRecDepth 100000
namespace Go.Proofs.YtalbjjimnhldfaaGreatDoor
open Go.Ev
noncomputable section
def W_G_codes_0 : PAt → Option AO := fun (a : PAt) => Option.some (AO.row (Array.toList (Array.mk [Value.iface (1000000009 : Nat) (Value.agg (Array.mk [Value.bool a.2.1.1, Value.slice (Option.some (Addr.mk (15 : Nat)
a.2.1.2 Option.none)) a.2.1.3 a.2.1.4])), Value.iface (1000000009 : Nat) (Value.agg (Array.mk [Value.bool a.2.2.1, Value.slice (Option.some (Addr.mk (16 : Nat) a.2.2.2
Option.none)) a.2.2.3 a.2.2.4])), Value.iface (1000000009 : Nat) (Value.agg (Array.mk [Value.bool a.2.3.1, Value.slice (Option.some (Addr.mk (17 : Nat) a.2.3.2 Option.none))
a.2.3.3 a.2.3.4])), Value.iface (1000000007 : Nat) (Value.int IntKind.i64 a.2.4), Value.iface (1000000007 : Nat) (Value.int IntKind.i64 a.2.5), Value.iface (1000000007 : Nat)
(Value.int IntKind.i64 a.2.6), Value.iface (1000000007 : Nat) (Value.int IntKind.i64 a.2.7), Value.iface (1000000007 : Nat) (Value.int IntKind.u64 a.2.8)])) (37 : Nat) Md.own)
def W_G_codes_1 : F3 → Option AO := fun (x30 : F3) => Option.some (AO.row [Value.iface (1000000009 : Nat) (Value.agg (Array.mk [Value.bool x30.4.1.1, Value.slice (Option.some (Addr.mk (26 : Nat) (0 : Nat)
Option.none)) x30.4.1.2 x30.4.1.3])), Value.iface (1000000009 : Nat) (Value.agg (Array.mk [Value.bool x30.4.2.1, Value.slice (Option.some (Addr.mk (27 : Nat) (0 : Nat)
Option.none)) x30.4.2.2 x30.4.2.3])), Value.iface (1000000009 : Nat) (Value.agg (Array.mk [Value.bool x30.4.3.1, Value.slice (Option.some (Addr.mk (28 : Nat) (0 : Nat)
Option.none)) x30.4.3.2 x30.4.3.3])), Value.iface (1000000007 : Nat) (Value.int IntKind.i64 x30.4.4), Value.iface (1000000007 : Nat) (Value.int IntKind.i64 x30.4.5), Value.iface
(1000000007 : Nat) (Value.int IntKind.i64 x30.4.6), Value.iface (1000000007 : Nat) (Value.int IntKind.i64 x30.4.7), Value.iface (1000000007 : Nat) (Value.int IntKind.u64 x30.4.8)]
(66 : Nat) Md.own)
def W_G_codes_2 : PAt → Option AO := fun (a : PAt) => Option.some (AO.row [Value.iface (1000000009 : Nat) (Value.agg (Array.mk [Value.bool a.1.1.1, Value.slice (Option.some (Addr.mk (12 : Nat) a.1.1.2 Option.none))
(Min.min a.1.1.3 (70 : Nat)) a.1.1.4])), Value.iface (1000000009 : Nat) (Value.agg (Array.mk [Value.bool a.1.2.1, Value.slice (Option.some (Addr.mk (13 : Nat) a.1.2.2 Option.none))
(Min.min a.1.2.3 (10 : Nat)) a.1.2.4])), Value.iface (1000000009 : Nat) (Value.agg (Array.mk [Value.bool a.1.3.1, Value.slice (Option.some (Addr.mk (14 : Nat) a.1.3.2 Option.none))
(Min.min a.1.3.3 (10 : Nat)) a.1.3.4])), Value.iface (1000000007 : Nat) (Value.int IntKind.i64 a.1.4), Value.iface (1000000007 : Nat) (Value.int IntKind.i64 a.1.5), Value.iface
(1000000007 : Nat) (Value.int IntKind.i64 a.1.6), Value.iface (1000000007 : Nat) (Value.int IntKind.i64 a.1.7), Value.iface (1000000007 : Nat) (Value.int IntKind.u64 a.1.8)] (37 :
Nat) Md.own)
def W_G_codes_3 : PAt → Option AO := fun (a : PAt) => Option.some (AO.row [Value.iface (1000000009 : Nat) (Value.agg (Array.mk [Value.bool a.2.1.1, Value.slice (Option.some (Addr.mk (15 : Nat) a.2.1.2 Option.none))
(Min.min a.2.1.3 (70 : Nat)) a.2.1.4])), Value.iface (1000000009 : Nat) (Value.agg (Array.mk [Value.bool a.2.2.1, Value.slice (Option.some (Addr.mk (16 : Nat) a.2.2.2 Option.none))
(Min.min a.2.2.3 (10 : Nat)) a.2.2.4])), Value.iface (1000000009 : Nat) (Value.agg (Array.mk [Value.bool a.2.3.1, Value.slice (Option.some (Addr.mk (17 : Nat) a.2.3.2 Option.none))
(Min.min a.2.3.3 (10 : Nat)) a.2.3.4])), Value.iface (1000000007 : Nat) (Value.int IntKind.i64 a.2.4), Value.iface (1000000007 : Nat) (Value.int IntKind.i64 a.2.5), Value.iface
(1000000007 : Nat) (Value.int IntKind.i64 a.2.6), Value.iface (1000000007 : Nat) (Value.int IntKind.i64 a.2.7), Value.iface (1000000007 : Nat) (Value.int IntKind.u64 a.2.8)] (37 :
Nat) Md.own)
end
set_option maxHeartbeats 3200000 in
theorem vc_codes (a : PAt) (x : PX) : G_codes a x = ((True ∧ (∃ (x0 : PX), PH (PA.mk (SA.mk a.1.1.1 a.1.1.2 a.1.1.3 a.1.1.4 a.1.1.5) (SA.mk a.1.2.1 a.1.2.2 a.1.2.3 a.1.2.4 a.1.2.5) (SA.mk a.1.3.1 a.1.3.2 a.1.3.3 a.1.3.4 a.1.3.5)
a.1.4 a.1.5 a.1.6 a.1.7 a.1.8) x0) ∧ True) ∧ (((Z4 a.1.1 ∧ Z4 a.1.2 ∧ Z4 a.1.3 ∧ ZR a.1) ∧ True) ∧ ZF a.1.1.5 ∧ ZF a.1.2.5 ∧ ZF a.1.3.5 ∧ True) ∧ (∀ (x1 : Unit), True → (True ∧ (∃
(x2 : PX), PH (PA.mk (SA.mk a.2.1.1 a.2.1.2 a.2.1.3 a.2.1.4 a.2.1.5) (SA.mk a.2.2.1 a.2.2.2 a.2.2.3 a.2.2.4 a.2.2.5) (SA.mk a.2.3.1 a.2.3.2 a.2.3.3 a.2.3.4 a.2.3.5) a.2.4 a.2.5
a.2.6 a.2.7 a.2.8) x2) ∧ True) ∧ (((Z4 a.2.1 ∧ Z4 a.2.2 ∧ Z4 a.2.3 ∧ ZR a.2) ∧ True) ∧ ZF a.2.1.5 ∧ ZF a.2.2.5 ∧ ZF a.2.3.5 ∧ True) ∧ (∀ (x3 : Unit), True → (True ∧ True ∧
(W_G_codes_0 a = W_G_codes_0 a ∧ True) ∧ True ∧ True ∧ True ∧ True) ∧ ((True ∧ (∃ (x4 : PX), PH (cutA a.1) x4 ∧ PW (cutA a.1) x4 ∧ Byts8 x4.3) ∧ Min.min a.1.1.3 70 ≤ 100 ∧ Min.min
a.1.2.3 10 ≤ 100 ∧ Min.min a.1.3.3 10 ≤ 100) ∧ (((Z4 (cutA a.1).1 ∧ Z4 (cutA a.1).2 ∧ Z4 (cutA a.1).3 ∧ ZR a.1) ∧ True) ∧ ZF a.1.1.5 ∧ ZF a.1.2.5 ∧ ZF a.1.3.5 ∧ True) ∧ (∀ (x5 :
OW), (x5.2 ≤ 4000 ∧ ∀ (x6 : PX), PH (cutA a.1) x6 → OwB x5 (enc (cutA a.1) x6)) → ∃ (x7 : F1), (x7.1.2 ≤ 4000 ∧ OwB x7.1 (enc (cutA a.1) (cutX x))) ∧ (a.3 = a.3 ∧ 0 = 0 ∧ 0 = 0 ∧
(0 = 0 ∧ x7.1.1 = x5.1 ∧ x7.1.2 = x5.2) ∧ True) ∧ ((True ∧ Z4 (cutA a.1).1 ∧ Z4 (cutA a.1).2 ∧ Z4 (cutA a.1).3 ∧ ZR a.1) ∧ (True ∧ Z4 (cutA a.2).1 ∧ Z4 (cutA a.2).2 ∧ Z4 (cutA
a.2).3 ∧ ZR a.2) ∧ (True ∧ FlatL x7.1.3 ∧ x7.1.3 = x5.3) ∧ ZF a.1.1.5 ∧ ZF a.1.2.5 ∧ ZF a.1.3.5 ∧ ZF a.2.1.5 ∧ ZF a.2.2.5 ∧ ZF a.2.3.5 ∧ ZF cells0 ∧ ZF cells1 ∧ ZF cells2 ∧ ZF
cells4 ∧ ZF cells5 ∧ ZF cells6 ∧ ZF cells8 ∧ ZF cells9 ∧ ZF cells10 ∧ True) ∧ True) ∧ True) ∧ ∀ (x8 : F1), x8.1.2 ≤ 4000 ∧ OwB x8.1 (enc (cutA a.1) (cutX x)) → ((True ∧ (∃ (x9 :
List Int), SB false (nat_lit 0) x8.1.1 x8.1.2 x8.1.3 x9 ∧ Byts8 x9) ∧ x8.1.1 ≤ 100000) ∧ (((false = false ∧ nat_lit 0 = 0 ∧ x8.1.1 = x8.1.1 ∧ x8.1.2 = x8.1.2) ∧ True) ∧ ZF x8.1.3 ∧
True) ∧ (∀ (x10 : PR), (∀ (x11 : List Int), SB false (nat_lit 0) x8.1.1 x8.1.2 x8.1.3 x11 → endC x11 (r4C x11).1 (r4C x11).2 = (0 : Int) ∧ (LC x10.1 (dWC x11).3 ∧ LF Value.bool 1
x10.2 (goneL (dGC x11).3) ∧ LF (Value.int IntKind.u8) 8 x10.3 (tipsL (dTC x11).3)) ∧ x10.4 = unfI (r0C x11).3 ∧ x10.5 = unfI (r1C x11).3 ∧ x10.6 = unfI (r2C x11).3 ∧ x10.7 = unfI
(r3C x11).3 ∧ x10.8 = (r4C x11).3) → ∃ (x12 : F2), ((x12.1.2 ≤ 4000 ∧ OwB x12.1 (enc (cutA a.1) (cutX x))) ∧ isP (enc (cutA a.1) (cutX x)) x12.2 x12.3) ∧ (a.3 = a.3 ∧ 0 = 0 ∧ 0 = 0
∧ (0 = 0 ∧ x12.1.1 = x8.1.1 ∧ x12.1.2 = x8.1.2) ∧ 0 = 0 ∧ x12.3 = 0 ∧ True) ∧ ((True ∧ Z4 (cutA a.1).1 ∧ Z4 (cutA a.1).2 ∧ Z4 (cutA a.1).3 ∧ ZR a.1) ∧ (True ∧ Z4 (cutA a.2).1 ∧ Z4
(cutA a.2).2 ∧ Z4 (cutA a.2).3 ∧ ZR a.2) ∧ (True ∧ FlatL x12.1.3 ∧ x12.1.3 = x8.1.3) ∧ (True ∧ (x12.2.1.1 = x10.1.1 ∧ 0 = 0 ∧ x12.2.1.2 = x10.1.2 ∧ x12.2.1.3 = x10.1.3) ∧
(x12.2.2.1 = x10.2.1 ∧ 0 = 0 ∧ x12.2.2.2 = x10.2.2 ∧ x12.2.2.3 = x10.2.3) ∧ (x12.2.3.1 = x10.3.1 ∧ 0 = 0 ∧ x12.2.3.2 = x10.3.2 ∧ x12.2.3.3 = x10.3.3) ∧ x12.2.4 = x10.4 ∧ x12.2.5 =
x10.5 ∧ x12.2.6 = x10.6 ∧ x12.2.7 = x10.7 ∧ x12.2.8 = x10.8 ∧ True) ∧ (x12.2.1.3 = x10.1.3 ∧ FlatL x12.2.1.4 ∧ x12.2.1.4 = x10.1.4) ∧ (x12.2.2.3 = x10.2.3 ∧ FlatL x12.2.2.4 ∧
x12.2.2.4 = x10.2.4) ∧ (x12.2.3.3 = x10.3.3 ∧ FlatL x12.2.3.4 ∧ x12.2.3.4 = x10.3.4) ∧ ZF a.1.1.5 ∧ ZF a.1.2.5 ∧ ZF a.1.3.5 ∧ ZF a.2.1.5 ∧ ZF a.2.2.5 ∧ ZF a.2.3.5 ∧ ZF cells0 ∧ ZF
cells1 ∧ ZF cells2 ∧ ZF cells4 ∧ ZF cells5 ∧ ZF cells6 ∧ ZF cells8 ∧ ZF cells9 ∧ ZF cells10 ∧ True) ∧ True) ∧ (∀ (x13 : EE), (x13.1 ≠ 0 ∧ ∀ (x14 : List Int), SB false (nat_lit 0)
x8.1.1 x8.1.2 x8.1.3 x14 → endC x14 (r4C x14).1 (r4C x14).2 = x13.1) → ∃ (x15 : F2), ((x15.1.2 ≤ 4000 ∧ OwB x15.1 (enc (cutA a.1) (cutX x))) ∧ isP (enc (cutA a.1) (cutX x)) x15.2
x15.3) ∧ (a.3 = a.3 ∧ 0 = 0 ∧ 0 = 0 ∧ (0 = 0 ∧ x15.1.1 = x8.1.1 ∧ x15.1.2 = x8.1.2) ∧ 0 = 0 ∧ x15.3 = x13.1 ∧ True) ∧ ((True ∧ Z4 (cutA a.1).1 ∧ Z4 (cutA a.1).2 ∧ Z4 (cutA a.1).3 ∧
ZR a.1) ∧ (True ∧ Z4 (cutA a.2).1 ∧ Z4 (cutA a.2).2 ∧ Z4 (cutA a.2).3 ∧ ZR a.2) ∧ (True ∧ FlatL x15.1.3 ∧ x15.1.3 = x8.1.3) ∧ (True ∧ (x15.2.1.1 = true ∧ x15.2.1.2 = 0 ∧ x15.2.1.3
= 0) ∧ (x15.2.2.1 = true ∧ x15.2.2.2 = 0 ∧ x15.2.2.3 = 0) ∧ (x15.2.3.1 = true ∧ x15.2.3.2 = 0 ∧ x15.2.3.3 = 0) ∧ x15.2.4 = 0 ∧ x15.2.5 = 0 ∧ x15.2.6 = 0 ∧ x15.2.7 = 0 ∧ x15.2.8 = 0
∧ True) ∧ (FlatL x15.2.1.4 ∧ True) ∧ (FlatL x15.2.2.4 ∧ True) ∧ (FlatL x15.2.3.4 ∧ True) ∧ ZF a.1.1.5 ∧ ZF a.1.2.5 ∧ ZF a.1.3.5 ∧ ZF a.2.1.5 ∧ ZF a.2.2.5 ∧ ZF a.2.3.5 ∧ ZF cells0 ∧
ZF cells1 ∧ ZF cells2 ∧ ZF cells4 ∧ ZF cells5 ∧ ZF cells6 ∧ ZF cells8 ∧ ZF cells9 ∧ ZF cells10 ∧ True) ∧ True) ∧ True) ∧ ∀ (x16 : F2), (x16.1.2 ≤ 4000 ∧ OwB x16.1 (enc (cutA a.1)
(cutX x))) ∧ isP (enc (cutA a.1) (cutX x)) x16.2 x16.3 → ((True ∧ (∃ (x17 : PX), PH (cutA a.1) x17) ∧ Min.min a.1.3.3 10 ≤ 100) ∧ (((Z4 (cutA a.1).1 ∧ Z4 (cutA a.1).2 ∧ Z4 (cutA
a.1).3 ∧ ZR a.1) ∧ True) ∧ ZF a.1.1.5 ∧ ZF a.1.2.5 ∧ ZF a.1.3.5 ∧ True) ∧ (∀ (x18 : RN), (∀ (x19 : List Int), Sli (Value.int IntKind.u8) 8 a.1.3.1 a.1.3.2 (Min.min a.1.3.3 10)
a.1.3.4 a.1.3.5 x19 → Sli (Value.int IntKind.u8) 8 x18.1 0 (Min.min a.1.3.3 10) x18.2 x18.3 x19) → (True ∧ (∃ (x20 : PX), PH (PA.mk (SA.mk a.1.1.1 a.1.1.2 (Min.min a.1.1.3 70)
a.1.1.4 a.1.1.5) (SA.mk a.1.2.1 a.1.2.2 (Min.min a.1.2.3 10) a.1.2.4 a.1.2.5) (SA.mk x18.1 0 (Min.min a.1.3.3 10) x18.2 x18.3) a.1.4 a.1.5 a.1.6 a.1.7 a.1.8) x20 ∧ PW (PA.mk (SA.mk
a.1.1.1 a.1.1.2 (Min.min a.1.1.3 70) a.1.1.4 a.1.1.5) (SA.mk a.1.2.1 a.1.2.2 (Min.min a.1.2.3 10) a.1.2.4 a.1.2.5) (SA.mk x18.1 0 (Min.min a.1.3.3 10) x18.2 x18.3) a.1.4 a.1.5
a.1.6 a.1.7 a.1.8) x20) ∧ Min.min a.1.1.3 70 ≤ 70 ∧ Min.min a.1.2.3 10 ≤ 10 ∧ Min.min a.1.3.3 10 ≤ 10) ∧ (((Z4 (cutA a.1).1 ∧ Z4 (cutA a.1).2 ∧ (x18.1 = x18.1 ∧ nat_lit 0 = 0 ∧
Min.min a.1.3.3 10 = Min.min a.1.3.3 10 ∧ x18.2 = x18.2) ∧ ZR a.1) ∧ True) ∧ ZF a.1.1.5 ∧ ZF a.1.2.5 ∧ ZF x18.3 ∧ True) ∧ (∀ (x21 : RW), (∀ (x22 : PX), PH (PA.mk (SA.mk a.1.1.1
a.1.1.2 (Min.min a.1.1.3 70) a.1.1.4 a.1.1.5) (SA.mk a.1.2.1 a.1.2.2 (Min.min a.1.2.3 10) a.1.2.4 a.1.2.5) (SA.mk x18.1 0 (Min.min a.1.3.3 10) x18.2 x18.3) a.1.4 a.1.5 a.1.6 a.1.7
a.1.8) x22 → HE IntKind.u8 x21.2 (enc (PA.mk (SA.mk a.1.1.1 a.1.1.2 (Min.min a.1.1.3 70) a.1.1.4 a.1.1.5) (SA.mk a.1.2.1 a.1.2.2 (Min.min a.1.2.3 10) a.1.2.4 a.1.2.5) (SA.mk x18.1
0 (Min.min a.1.3.3 10) x18.2 x18.3) a.1.4 a.1.5 a.1.6 a.1.7 a.1.8) x22) ∧ List.length x21.2 ≤ x21.1 ∧ List.length x21.2 ≤ 2000) → (True ∧ (∃ (x23 : List Int), SB false (nat_lit 0)
(List.length x21.2) x21.1 x21.2 x23 ∧ Byts8 x23 ∧ endC x23 (r4C x23).1 (r4C x23).2 ≠ (4 : Int)) ∧ List.length x21.2 ≤ 100000) ∧ (((false = false ∧ nat_lit 0 = 0 ∧ List.length x21.2
= List.length x21.2 ∧ x21.1 = x21.1) ∧ True) ∧ ZF x21.2 ∧ True) ∧ (∀ (x24 : PR), (∀ (x25 : List Int), SB false (nat_lit 0) (List.length x21.2) x21.1 x21.2 x25 → endC x25 (r4C
x25).1 (r4C x25).2 = (0 : Int) ∧ (LC x24.1 (dWC x25).3 ∧ LF Value.bool 1 x24.2 (goneL (dGC x25).3) ∧ LF (Value.int IntKind.u8) 8 x24.3 (tipsL (dTC x25).3)) ∧ x24.4 = unfI (r0C
x25).3 ∧ x24.5 = unfI (r1C x25).3 ∧ x24.6 = unfI (r2C x25).3 ∧ x24.7 = unfI (r3C x25).3 ∧ x24.8 = (r4C x25).3) → ∃ (x26 : F3), ((x26.1.2 ≤ 4000 ∧ OwB x26.1 (enc (cutA a.1) (cutX
x))) ∧ isP (enc (cutA a.1) (cutX x)) x26.2 x26.3 ∧ isP (enc (cutA a.1) (cutX x)) x26.4 x26.5) ∧ (a.3 = a.3 ∧ 0 = 0 ∧ 0 = 0 ∧ (0 = 0 ∧ x26.1.1 = x16.1.1 ∧ x26.1.2 = x16.1.2) ∧ 0 = 0
∧ x26.3 = x16.3 ∧ 0 = 0 ∧ x26.5 = 0 ∧ True) ∧ ((True ∧ Z4 (cutA a.1).1 ∧ Z4 (cutA a.1).2 ∧ Z4 (cutA a.1).3 ∧ ZR a.1) ∧ (True ∧ Z4 (cutA a.2).1 ∧ Z4 (cutA a.2).2 ∧ Z4 (cutA a.2).3 ∧
ZR a.2) ∧ (True ∧ FlatL x26.1.3 ∧ x26.1.3 = x16.1.3) ∧ (True ∧ (x26.2.1.1 = x16.2.1.1 ∧ 0 = 0 ∧ x26.2.1.2 = x16.2.1.2 ∧ x26.2.1.3 = x16.2.1.3) ∧ (x26.2.2.1 = x16.2.2.1 ∧ 0 = 0 ∧
x26.2.2.2 = x16.2.2.2 ∧ x26.2.2.3 = x16.2.2.3) ∧ (x26.2.3.1 = x16.2.3.1 ∧ 0 = 0 ∧ x26.2.3.2 = x16.2.3.2 ∧ x26.2.3.3 = x16.2.3.3) ∧ x26.2.4 = x16.2.4 ∧ x26.2.5 = x16.2.5 ∧ x26.2.6 =
x16.2.6 ∧ x26.2.7 = x16.2.7 ∧ x26.2.8 = x16.2.8 ∧ True) ∧ (x26.2.1.3 = x16.2.1.3 ∧ FlatL x26.2.1.4 ∧ x26.2.1.4 = x16.2.1.4) ∧ (x26.2.2.3 = x16.2.2.3 ∧ FlatL x26.2.2.4 ∧ x26.2.2.4 =
x16.2.2.4) ∧ (x26.2.3.3 = x16.2.3.3 ∧ FlatL x26.2.3.4 ∧ x26.2.3.4 = x16.2.3.4) ∧ (True ∧ (x26.4.1.1 = x24.1.1 ∧ 0 = 0 ∧ x26.4.1.2 = x24.1.2 ∧ x26.4.1.3 = x24.1.3) ∧ (x26.4.2.1 =
x24.2.1 ∧ 0 = 0 ∧ x26.4.2.2 = x24.2.2 ∧ x26.4.2.3 = x24.2.3) ∧ (x26.4.3.1 = x24.3.1 ∧ 0 = 0 ∧ x26.4.3.2 = x24.3.2 ∧ x26.4.3.3 = x24.3.3) ∧ x26.4.4 = x24.4 ∧ x26.4.5 = x24.5 ∧
x26.4.6 = x24.6 ∧ x26.4.7 = x24.7 ∧ x26.4.8 = x24.8 ∧ True) ∧ (x26.4.1.3 = x24.1.3 ∧ FlatL x26.4.1.4 ∧ x26.4.1.4 = x24.1.4) ∧ (x26.4.2.3 = x24.2.3 ∧ FlatL x26.4.2.4 ∧ x26.4.2.4 =
x24.2.4) ∧ (x26.4.3.3 = x24.3.3 ∧ FlatL x26.4.3.4 ∧ x26.4.3.4 = x24.3.4) ∧ ZF a.1.1.5 ∧ ZF a.1.2.5 ∧ ZF a.1.3.5 ∧ ZF a.2.1.5 ∧ ZF a.2.2.5 ∧ ZF a.2.3.5 ∧ ZF cells0 ∧ ZF cells1 ∧ ZF
cells2 ∧ ZF cells4 ∧ ZF cells5 ∧ ZF cells6 ∧ ZF cells8 ∧ ZF cells9 ∧ ZF cells10 ∧ True) ∧ True) ∧ (∀ (x27 : EE), (x27.1 ≠ 0 ∧ ∀ (x28 : List Int), SB false (nat_lit 0) (List.length
x21.2) x21.1 x21.2 x28 → endC x28 (r4C x28).1 (r4C x28).2 = x27.1) → ∃ (x29 : F3), ((x29.1.2 ≤ 4000 ∧ OwB x29.1 (enc (cutA a.1) (cutX x))) ∧ isP (enc (cutA a.1) (cutX x)) x29.2
x29.3 ∧ isP (enc (cutA a.1) (cutX x)) x29.4 x29.5) ∧ (a.3 = a.3 ∧ 0 = 0 ∧ 0 = 0 ∧ (0 = 0 ∧ x29.1.1 = x16.1.1 ∧ x29.1.2 = x16.1.2) ∧ 0 = 0 ∧ x29.3 = x16.3 ∧ 0 = 0 ∧ x29.5 = x27.1 ∧
True) ∧ ((True ∧ Z4 (cutA a.1).1 ∧ Z4 (cutA a.1).2 ∧ Z4 (cutA a.1).3 ∧ ZR a.1) ∧ (True ∧ Z4 (cutA a.2).1 ∧ Z4 (cutA a.2).2 ∧ Z4 (cutA a.2).3 ∧ ZR a.2) ∧ (True ∧ FlatL x29.1.3 ∧
x29.1.3 = x16.1.3) ∧ (True ∧ (x29.2.1.1 = x16.2.1.1 ∧ 0 = 0 ∧ x29.2.1.2 = x16.2.1.2 ∧ x29.2.1.3 = x16.2.1.3) ∧ (x29.2.2.1 = x16.2.2.1 ∧ 0 = 0 ∧ x29.2.2.2 = x16.2.2.2 ∧ x29.2.2.3 =
x16.2.2.3) ∧ (x29.2.3.1 = x16.2.3.1 ∧ 0 = 0 ∧ x29.2.3.2 = x16.2.3.2 ∧ x29.2.3.3 = x16.2.3.3) ∧ x29.2.4 = x16.2.4 ∧ x29.2.5 = x16.2.5 ∧ x29.2.6 = x16.2.6 ∧ x29.2.7 = x16.2.7 ∧
x29.2.8 = x16.2.8 ∧ True) ∧ (x29.2.1.3 = x16.2.1.3 ∧ FlatL x29.2.1.4 ∧ x29.2.1.4 = x16.2.1.4) ∧ (x29.2.2.3 = x16.2.2.3 ∧ FlatL x29.2.2.4 ∧ x29.2.2.4 = x16.2.2.4) ∧ (x29.2.3.3 =
x16.2.3.3 ∧ FlatL x29.2.3.4 ∧ x29.2.3.4 = x16.2.3.4) ∧ (True ∧ (x29.4.1.1 = true ∧ x29.4.1.2 = 0 ∧ x29.4.1.3 = 0) ∧ (x29.4.2.1 = true ∧ x29.4.2.2 = 0 ∧ x29.4.2.3 = 0) ∧ (x29.4.3.1
= true ∧ x29.4.3.2 = 0 ∧ x29.4.3.3 = 0) ∧ x29.4.4 = 0 ∧ x29.4.5 = 0 ∧ x29.4.6 = 0 ∧ x29.4.7 = 0 ∧ x29.4.8 = 0 ∧ True) ∧ (FlatL x29.4.1.4 ∧ True) ∧ (FlatL x29.4.2.4 ∧ True) ∧ (FlatL
x29.4.3.4 ∧ True) ∧ ZF a.1.1.5 ∧ ZF a.1.2.5 ∧ ZF a.1.3.5 ∧ ZF a.2.1.5 ∧ ZF a.2.2.5 ∧ ZF a.2.3.5 ∧ ZF cells0 ∧ ZF cells1 ∧ ZF cells2 ∧ ZF cells4 ∧ ZF cells5 ∧ ZF cells6 ∧ ZF cells8
∧ ZF cells9 ∧ ZF cells10 ∧ True) ∧ True) ∧ True) ∧ True) ∧ True) ∧ ∀ (x30 : F3), (x30.1.2 ≤ 4000 ∧ OwB x30.1 (enc (cutA a.1) (cutX x))) ∧ isP (enc (cutA a.1) (cutX x)) x30.2 x30.3
∧ isP (enc (cutA a.1) (cutX x)) x30.4 x30.5 → ((True ∧ (∃ (x31 : PX), PH (cutA a.1) x31) ∧ Min.min a.1.3.3 10 ≤ 100) ∧ (((Z4 (cutA a.1).1 ∧ Z4 (cutA a.1).2 ∧ Z4 (cutA a.1).3 ∧ ZR
a.1) ∧ True) ∧ ZF a.1.1.5 ∧ ZF a.1.2.5 ∧ ZF a.1.3.5 ∧ True) ∧ (∀ (x32 : RN), (∀ (x33 : List Int), Sli (Value.int IntKind.u8) 8 a.1.3.1 a.1.3.2 (Min.min a.1.3.3 10) a.1.3.4 a.1.3.5
x33 → Sli (Value.int IntKind.u8) 8 x32.1 0 (Min.min a.1.3.3 10) x32.2 x32.3 x33) → (True ∧ (∃ (x34 : PX), PH (PA.mk (SA.mk a.1.1.1 a.1.1.2 (Min.min a.1.1.3 70) a.1.1.4 a.1.1.5)
(SA.mk a.1.2.1 a.1.2.2 (Min.min a.1.2.3 10) a.1.2.4 a.1.2.5) (SA.mk x32.1 0 (Min.min a.1.3.3 10) x32.2 x32.3) a.1.4 a.1.5 a.1.6 a.1.7 a.1.8) x34 ∧ PW (PA.mk (SA.mk a.1.1.1 a.1.1.2
(Min.min a.1.1.3 70) a.1.1.4 a.1.1.5) (SA.mk a.1.2.1 a.1.2.2 (Min.min a.1.2.3 10) a.1.2.4 a.1.2.5) (SA.mk x32.1 0 (Min.min a.1.3.3 10) x32.2 x32.3) a.1.4 a.1.5 a.1.6 a.1.7 a.1.8)
x34) ∧ Min.min a.1.1.3 70 ≤ 70 ∧ Min.min a.1.2.3 10 ≤ 10 ∧ Min.min a.1.3.3 10 ≤ 10) ∧ (((Z4 (cutA a.1).1 ∧ Z4 (cutA a.1).2 ∧ (x32.1 = x32.1 ∧ nat_lit 0 = 0 ∧ Min.min a.1.3.3 10 =
Min.min a.1.3.3 10 ∧ x32.2 = x32.2) ∧ ZR a.1) ∧ True) ∧ ZF a.1.1.5 ∧ ZF a.1.2.5 ∧ ZF x32.3 ∧ True) ∧ (∀ (x35 : RW), (∀ (x36 : PX), PH (PA.mk (SA.mk a.1.1.1 a.1.1.2 (Min.min a.1.1.3
70) a.1.1.4 a.1.1.5) (SA.mk a.1.2.1 a.1.2.2 (Min.min a.1.2.3 10) a.1.2.4 a.1.2.5) (SA.mk x32.1 0 (Min.min a.1.3.3 10) x32.2 x32.3) a.1.4 a.1.5 a.1.6 a.1.7 a.1.8) x36 → HE
IntKind.u8 x35.2 (enc (PA.mk (SA.mk a.1.1.1 a.1.1.2 (Min.min a.1.1.3 70) a.1.1.4 a.1.1.5) (SA.mk a.1.2.1 a.1.2.2 (Min.min a.1.2.3 10) a.1.2.4 a.1.2.5) (SA.mk x32.1 0 (Min.min
a.1.3.3 10) x32.2 x32.3) a.1.4 a.1.5 a.1.6 a.1.7 a.1.8) x36) ∧ List.length x35.2 ≤ x35.1 ∧ List.length x35.2 ≤ 2000) → (True ∧ (∃ (x37 : List Int), ∃ (x38 : List Int), SB false
(nat_lit 0) x30.1.1 x30.1.2 x30.1.3 x37 ∧ SB false (nat_lit 0) (List.length x35.2) x35.1 x35.2 x38) ∧ x30.1.1 ≤ 1000000 ∧ List.length x35.2 ≤ 1000000) ∧ (((false = false ∧ nat_lit
0 = 0 ∧ x30.1.1 = x30.1.1 ∧ x30.1.2 = x30.1.2) ∧ (false = false ∧ nat_lit 0 = 0 ∧ List.length x35.2 = List.length x35.2 ∧ x35.1 = x35.1) ∧ True) ∧ ZF x30.1.3 ∧ ZF x35.2 ∧ True) ∧
(∀ (x39 : Unit), (∀ (x40 x41 : List Int), SB false (nat_lit 0) x30.1.1 x30.1.2 x30.1.3 x40 → SB false (nat_lit 0) (List.length x35.2) x35.1 x35.2 x41 → x40 = x41) → (True ∧ (∃ (x42
: PX), PH (cutA a.1) x42 ∧ PW (cutA a.1) x42 ∧ Byts8 x42.3) ∧ Min.min a.1.1.3 70 ≤ 100 ∧ Min.min a.1.2.3 10 ≤ 100 ∧ Min.min a.1.3.3 10 ≤ 100) ∧ (((Z4 (cutA a.1).1 ∧ Z4 (cutA a.1).2
∧ Z4 (cutA a.1).3 ∧ ZR a.1) ∧ True) ∧ ZF a.1.1.5 ∧ ZF a.1.2.5 ∧ ZF a.1.3.5 ∧ True) ∧ (∀ (x43 : D8), (∀ (x44 : PX), PH (cutA a.1) x44 → x43 = ofC (enc (cutA a.1) x44)) → (True ∧ (∃
(x45 : List Int), SB false (nat_lit 0) x30.1.1 x30.1.2 x30.1.3 x45 ∧ Byts8 x45) ∧ x30.1.1 ≤ 100000) ∧ (((false = false ∧ nat_lit 0 = 0 ∧ x30.1.1 = x30.1.1 ∧ x30.1.2 = x30.1.2) ∧
True) ∧ ZF x30.1.3 ∧ True) ∧ (∀ (x46 : D8), (∀ (x47 : List Int), SB false (nat_lit 0) x30.1.1 x30.1.2 x30.1.3 x47 → x46 = ofC x47) → (¬(x43.1 = x46.1 ∧ x43.2 = x46.2 ∧ x43.3 =
x46.3 ∧ x43.4 = x46.4 ∧ x43.5 = x46.5 ∧ x43.6 = x46.6 ∧ x43.7 = x46.7 ∧ x43.8 = x46.8 ∧ True) → ((True ∧ True ∧ True) ∧ True ∧ True ∧ True ∧ True ∧ True ∧ True ∧ True ∧ True ∧
(True ∧ True) ∧ True ∧ True ∧ True ∧ True ∧ True ∧ True ∧ True ∧ True ∧ True ∧ True ∧ True ∧ True ∧ True ∧ True ∧ True ∧ True ∧ True ∧ True ∧ True ∧ True ∧ True ∧ True ∧ True ∧
True ∧ True ∧ True ∧ True) ∧ ∃ (x48 : Unit), True ∧ true = false ∧ True) ∧ (x43.1 = x46.1 ∧ x43.2 = x46.2 ∧ x43.3 = x46.3 ∧ x43.4 = x46.4 ∧ x43.5 = x46.5 ∧ x43.6 = x46.6 ∧ x43.7 =
x46.7 ∧ x43.8 = x46.8 ∧ True → (x30.3 ≠ x30.5 → ((True ∧ True ∧ True) ∧ True ∧ True ∧ True ∧ True ∧ True ∧ True ∧ True ∧ True ∧ (True ∧ True) ∧ True ∧ True ∧ True ∧ True ∧ True ∧
True ∧ True ∧ True ∧ True ∧ True ∧ True ∧ True ∧ True ∧ True ∧ True ∧ True ∧ True ∧ True ∧ True ∧ True ∧ True ∧ True ∧ True ∧ True ∧ True ∧ True ∧ True) ∧ ∃ (x49 : Unit), True ∧
true = false ∧ True) ∧ (¬x30.3 ≠ x30.5 → (True ∧ (∃ (x50 : PX), PH (PA.mk (SA.mk x30.2.1.1 0 x30.2.1.2 x30.2.1.3 x30.2.1.4) (SA.mk x30.2.2.1 0 x30.2.2.2 x30.2.2.3 x30.2.2.4) (SA.mk
x30.2.3.1 0 x30.2.3.2 x30.2.3.3 x30.2.3.4) x30.2.4 x30.2.5 x30.2.6 x30.2.7 x30.2.8) x50) ∧ x30.2.3.2 ≤ 100) ∧ ((((x30.2.1.1 = x30.2.1.1 ∧ nat_lit 0 = 0 ∧ x30.2.1.2 = x30.2.1.2 ∧
x30.2.1.3 = x30.2.1.3) ∧ (x30.2.2.1 = x30.2.2.1 ∧ nat_lit 0 = 0 ∧ x30.2.2.2 = x30.2.2.2 ∧ x30.2.2.3 = x30.2.2.3) ∧ (x30.2.3.1 = x30.2.3.1 ∧ nat_lit 0 = 0 ∧ x30.2.3.2 = x30.2.3.2 ∧
x30.2.3.3 = x30.2.3.3) ∧ x30.2.4 = x30.2.4 ∧ x30.2.5 = x30.2.5 ∧ x30.2.6 = x30.2.6 ∧ x30.2.7 = x30.2.7 ∧ x30.2.8 = x30.2.8 ∧ True) ∧ True) ∧ ZF x30.2.1.4 ∧ ZF x30.2.2.4 ∧ ZF
x30.2.3.4 ∧ True) ∧ (∀ (x51 : RN), (∀ (x52 : List Int), Sli (Value.int IntKind.u8) 8 x30.2.3.1 (nat_lit 0) x30.2.3.2 x30.2.3.3 x30.2.3.4 x52 → Sli (Value.int IntKind.u8) 8 x51.1 0
x30.2.3.2 x51.2 x51.3 x52) → (True ∧ ((∃ (x53 : PX), PH (PA.mk (SA.mk x30.2.1.1 (nat_lit 0) x30.2.1.2 x30.2.1.3 x30.2.1.4) (SA.mk x30.2.2.1 (nat_lit 0) x30.2.2.2 x30.2.2.3
x30.2.2.4) (SA.mk x51.1 0 x30.2.3.2 x51.2 x51.3) x30.2.4 x30.2.5 x30.2.6 x30.2.7 x30.2.8) x53 ∧ PW (PA.mk (SA.mk x30.2.1.1 (nat_lit 0) x30.2.1.2 x30.2.1.3 x30.2.1.4) (SA.mk
x30.2.2.1 (nat_lit 0) x30.2.2.2 x30.2.2.3 x30.2.2.4) (SA.mk x51.1 0 x30.2.3.2 x51.2 x51.3) x30.2.4 x30.2.5 x30.2.6 x30.2.7 x30.2.8) x53) ∧ ∃ (x54 : PX), PH (PA.mk (SA.mk x30.4.1.1
0 x30.4.1.2 x30.4.1.3 x30.4.1.4) (SA.mk x30.4.2.1 0 x30.4.2.2 x30.4.2.3 x30.4.2.4) (SA.mk x30.4.3.1 0 x30.4.3.2 x30.4.3.3 x30.4.3.4) x30.4.4 x30.4.5 x30.4.6 x30.4.7 x30.4.8) x54 ∧
PW (PA.mk (SA.mk x30.4.1.1 0 x30.4.1.2 x30.4.1.3 x30.4.1.4) (SA.mk x30.4.2.1 0 x30.4.2.2 x30.4.2.3 x30.4.2.4) (SA.mk x30.4.3.1 0 x30.4.3.2 x30.4.3.3 x30.4.3.4) x30.4.4 x30.4.5
x30.4.6 x30.4.7 x30.4.8) x54) ∧ (x30.2.1.2 ≤ 70 ∧ x30.2.2.2 ≤ 10 ∧ x30.2.3.2 ≤ 10) ∧ x30.4.1.2 ≤ 70 ∧ x30.4.2.2 ≤ 10 ∧ x30.4.3.2 ≤ 10) ∧ ((((x30.2.1.1 = x30.2.1.1 ∧ nat_lit 0 =
nat_lit 0 ∧ x30.2.1.2 = x30.2.1.2 ∧ x30.2.1.3 = x30.2.1.3) ∧ (x30.2.2.1 = x30.2.2.1 ∧ nat_lit 0 = nat_lit 0 ∧ x30.2.2.2 = x30.2.2.2 ∧ x30.2.2.3 = x30.2.2.3) ∧ (x51.1 = x51.1 ∧
nat_lit 0 = 0 ∧ x30.2.3.2 = x30.2.3.2 ∧ x51.2 = x51.2) ∧ x30.2.4 = x30.2.4 ∧ x30.2.5 = x30.2.5 ∧ x30.2.6 = x30.2.6 ∧ x30.2.7 = x30.2.7 ∧ x30.2.8 = x30.2.8 ∧ True) ∧ ((x30.4.1.1 =
x30.4.1.1 ∧ nat_lit 0 = 0 ∧ x30.4.1.2 = x30.4.1.2 ∧ x30.4.1.3 = x30.4.1.3) ∧ (x30.4.2.1 = x30.4.2.1 ∧ nat_lit 0 = 0 ∧ x30.4.2.2 = x30.4.2.2 ∧ x30.4.2.3 = x30.4.2.3) ∧ (x30.4.3.1 =
x30.4.3.1 ∧ nat_lit 0 = 0 ∧ x30.4.3.2 = x30.4.3.2 ∧ x30.4.3.3 = x30.4.3.3) ∧ x30.4.4 = x30.4.4 ∧ x30.4.5 = x30.4.5 ∧ x30.4.6 = x30.4.6 ∧ x30.4.7 = x30.4.7 ∧ x30.4.8 = x30.4.8 ∧
True) ∧ True) ∧ ZF x30.2.1.4 ∧ ZF x30.2.2.4 ∧ ZF x51.3 ∧ ZF x30.4.1.4 ∧ ZF x30.4.2.4 ∧ ZF x30.4.3.4 ∧ True) ∧ (∀ (x55 : BL), (∀ (x56 x57 : PX), PH (PA.mk (SA.mk x30.2.1.1 (nat_lit
0) x30.2.1.2 x30.2.1.3 x30.2.1.4) (SA.mk x30.2.2.1 (nat_lit 0) x30.2.2.2 x30.2.2.3 x30.2.2.4) (SA.mk x51.1 0 x30.2.3.2 x51.2 x51.3) x30.2.4 x30.2.5 x30.2.6 x30.2.7 x30.2.8) x56 →
PH (PA.mk (SA.mk x30.4.1.1 0 x30.4.1.2 x30.4.1.3 x30.4.1.4) (SA.mk x30.4.2.1 0 x30.4.2.2 x30.4.2.3 x30.4.2.4) (SA.mk x30.4.3.1 0 x30.4.3.2 x30.4.3.3 x30.4.3.4) x30.4.4 x30.4.5
x30.4.6 x30.4.7 x30.4.8) x57 → (x55.1 = true ↔ enc (PA.mk (SA.mk x30.2.1.1 (nat_lit 0) x30.2.1.2 x30.2.1.3 x30.2.1.4) (SA.mk x30.2.2.1 (nat_lit 0) x30.2.2.2 x30.2.2.3 x30.2.2.4)
(SA.mk x51.1 0 x30.2.3.2 x51.2 x51.3) x30.2.4 x30.2.5 x30.2.6 x30.2.7 x30.2.8) x56 = enc (PA.mk (SA.mk x30.4.1.1 0 x30.4.1.2 x30.4.1.3 x30.4.1.4) (SA.mk x30.4.2.1 0 x30.4.2.2
x30.4.2.3 x30.4.2.4) (SA.mk x30.4.3.1 0 x30.4.3.2 x30.4.3.3 x30.4.3.4) x30.4.4 x30.4.5 x30.4.6 x30.4.7 x30.4.8) x57)) → (x55.1 = true → (True ∧ ((∃ (x58 : PX), PH (cutA a.1) x58) ∧
∃ (x59 : PX), PH (cutA a.2) x59) ∧ (Min.min a.1.1.3 70 ≤ 1000 ∧ Min.min a.1.2.3 10 ≤ 1000 ∧ Min.min a.1.3.3 10 ≤ 1000) ∧ Min.min a.2.1.3 70 ≤ 1000 ∧ Min.min a.2.2.3 10 ≤ 1000 ∧
Min.min a.2.3.3 10 ≤ 1000) ∧ (((Z4 (cutA a.1).1 ∧ Z4 (cutA a.1).2 ∧ Z4 (cutA a.1).3 ∧ ZR a.1) ∧ (Z4 (cutA a.2).1 ∧ Z4 (cutA a.2).2 ∧ Z4 (cutA a.2).3 ∧ ZR a.2) ∧ True) ∧ ZF a.1.1.5
∧ ZF a.1.2.5 ∧ ZF a.1.3.5 ∧ ZF a.2.1.5 ∧ ZF a.2.2.5 ∧ ZF a.2.3.5 ∧ True) ∧ (∀ (x60 : BL), (∀ (x61 x62 : PX), PH (cutA a.1) x61 → PH (cutA a.2) x62 → (x60.1 = true ↔ x61 = x62 ∧
RollsEq (cutA a.1) (cutA a.2))) → (True ∧ (∃ (x63 : PX), PH (cutA a.1) x63) ∧ Min.min a.1.3.3 10 ≤ 100) ∧ (((Z4 (cutA a.1).1 ∧ Z4 (cutA a.1).2 ∧ Z4 (cutA a.1).3 ∧ ZR a.1) ∧ True) ∧
ZF a.1.1.5 ∧ ZF a.1.2.5 ∧ ZF a.1.3.5 ∧ True) ∧ (∀ (x64 : RN), (∀ (x65 : List Int), Sli (Value.int IntKind.u8) 8 a.1.3.1 a.1.3.2 (Min.min a.1.3.3 10) a.1.3.4 a.1.3.5 x65 → Sli
(Value.int IntKind.u8) 8 x64.1 0 (Min.min a.1.3.3 10) x64.2 x64.3 x65) → (True ∧ (∃ (x66 : PX), PH (cutA a.2) x66) ∧ Min.min a.2.3.3 10 ≤ 100) ∧ (((Z4 (cutA a.2).1 ∧ Z4 (cutA
a.2).2 ∧ Z4 (cutA a.2).3 ∧ ZR a.2) ∧ True) ∧ ZF a.2.1.5 ∧ ZF a.2.2.5 ∧ ZF a.2.3.5 ∧ True) ∧ (∀ (x67 : RN), (∀ (x68 : List Int), Sli (Value.int IntKind.u8) 8 a.2.3.1 a.2.3.2
(Min.min a.2.3.3 10) a.2.3.4 a.2.3.5 x68 → Sli (Value.int IntKind.u8) 8 x67.1 0 (Min.min a.2.3.3 10) x67.2 x67.3 x68) → (True ∧ ((∃ (x69 : PX), PH (PA.mk (SA.mk a.1.1.1 a.1.1.2
(Min.min a.1.1.3 70) a.1.1.4 a.1.1.5) (SA.mk a.1.2.1 a.1.2.2 (Min.min a.1.2.3 10) a.1.2.4 a.1.2.5) (SA.mk x64.1 0 (Min.min a.1.3.3 10) x64.2 x64.3) a.1.4 a.1.5 a.1.6 a.1.7 a.1.8)
x69 ∧ PW (PA.mk (SA.mk a.1.1.1 a.1.1.2 (Min.min a.1.1.3 70) a.1.1.4 a.1.1.5) (SA.mk a.1.2.1 a.1.2.2 (Min.min a.1.2.3 10) a.1.2.4 a.1.2.5) (SA.mk x64.1 0 (Min.min a.1.3.3 10) x64.2
x64.3) a.1.4 a.1.5 a.1.6 a.1.7 a.1.8) x69) ∧ ∃ (x70 : PX), PH (PA.mk (SA.mk a.2.1.1 a.2.1.2 (Min.min a.2.1.3 70) a.2.1.4 a.2.1.5) (SA.mk a.2.2.1 a.2.2.2 (Min.min a.2.2.3 10)
a.2.2.4 a.2.2.5) (SA.mk x67.1 0 (Min.min a.2.3.3 10) x67.2 x67.3) a.2.4 a.2.5 a.2.6 a.2.7 a.2.8) x70 ∧ PW (PA.mk (SA.mk a.2.1.1 a.2.1.2 (Min.min a.2.1.3 70) a.2.1.4 a.2.1.5) (SA.mk
a.2.2.1 a.2.2.2 (Min.min a.2.2.3 10) a.2.2.4 a.2.2.5) (SA.mk x67.1 0 (Min.min a.2.3.3 10) x67.2 x67.3) a.2.4 a.2.5 a.2.6 a.2.7 a.2.8) x70) ∧ (Min.min a.1.1.3 70 ≤ 70 ∧ Min.min
a.1.2.3 10 ≤ 10 ∧ Min.min a.1.3.3 10 ≤ 10) ∧ Min.min a.2.1.3 70 ≤ 70 ∧ Min.min a.2.2.3 10 ≤ 10 ∧ Min.min a.2.3.3 10 ≤ 10) ∧ (((Z4 (cutA a.1).1 ∧ Z4 (cutA a.1).2 ∧ (x64.1 = x64.1 ∧
nat_lit 0 = 0 ∧ Min.min a.1.3.3 10 = Min.min a.1.3.3 10 ∧ x64.2 = x64.2) ∧ ZR a.1) ∧ (Z4 (cutA a.2).1 ∧ Z4 (cutA a.2).2 ∧ (x67.1 = x67.1 ∧ nat_lit 0 = 0 ∧ Min.min a.2.3.3 10 =
Min.min a.2.3.3 10 ∧ x67.2 = x67.2) ∧ ZR a.2) ∧ True) ∧ ZF a.1.1.5 ∧ ZF a.1.2.5 ∧ ZF x64.3 ∧ ZF a.2.1.5 ∧ ZF a.2.2.5 ∧ ZF x67.3 ∧ True) ∧ (∀ (x71 : BL), (∀ (x72 x73 : PX), PH
(PA.mk (SA.mk a.1.1.1 a.1.1.2 (Min.min a.1.1.3 70) a.1.1.4 a.1.1.5) (SA.mk a.1.2.1 a.1.2.2 (Min.min a.1.2.3 10) a.1.2.4 a.1.2.5) (SA.mk x64.1 0 (Min.min a.1.3.3 10) x64.2 x64.3)
a.1.4 a.1.5 a.1.6 a.1.7 a.1.8) x72 → PH (PA.mk (SA.mk a.2.1.1 a.2.1.2 (Min.min a.2.1.3 70) a.2.1.4 a.2.1.5) (SA.mk a.2.2.1 a.2.2.2 (Min.min a.2.2.3 10) a.2.2.4 a.2.2.5) (SA.mk
x67.1 0 (Min.min a.2.3.3 10) x67.2 x67.3) a.2.4 a.2.5 a.2.6 a.2.7 a.2.8) x73 → (x71.1 = true ↔ enc (PA.mk (SA.mk a.1.1.1 a.1.1.2 (Min.min a.1.1.3 70) a.1.1.4 a.1.1.5) (SA.mk
a.1.2.1 a.1.2.2 (Min.min a.1.2.3 10) a.1.2.4 a.1.2.5) (SA.mk x64.1 0 (Min.min a.1.3.3 10) x64.2 x64.3) a.1.4 a.1.5 a.1.6 a.1.7 a.1.8) x72 = enc (PA.mk (SA.mk a.2.1.1 a.2.1.2
(Min.min a.2.1.3 70) a.2.1.4 a.2.1.5) (SA.mk a.2.2.1 a.2.2.2 (Min.min a.2.2.3 10) a.2.2.4 a.2.2.5) (SA.mk x67.1 0 (Min.min a.2.3.3 10) x67.2 x67.3) a.2.4 a.2.5 a.2.6 a.2.7 a.2.8)
x73)) → (x60.1 ≠ x71.1 → ((True ∧ True ∧ True) ∧ True ∧ True ∧ True ∧ True ∧ True ∧ True ∧ True ∧ True ∧ (True ∧ True) ∧ True ∧ True ∧ True ∧ True ∧ True ∧ True ∧ True ∧ True ∧
True ∧ True ∧ True ∧ (W_G_codes_1 x30 = W_G_codes_1 x30 ∧ True) ∧ True ∧ True ∧ True ∧ True ∧ True ∧ True ∧ True ∧ (W_G_codes_2 a = W_G_codes_2 a ∧ True) ∧ True ∧ (W_G_codes_3 a =
W_G_codes_3 a ∧ W_G_codes_3 a = W_G_codes_3 a ∧ True) ∧ True ∧ True ∧ True ∧ True ∧ True) ∧ ∃ (x74 : Unit), True ∧ true = false ∧ True) ∧ (¬x60.1 ≠ x71.1 → ((True ∧ True ∧ True) ∧
True ∧ True ∧ True ∧ True ∧ True ∧ True ∧ True ∧ True ∧ (True ∧ True) ∧ True ∧ True ∧ True ∧ True ∧ True ∧ True ∧ True ∧ True ∧ True ∧ True ∧ True ∧ (W_G_codes_1 x30 = W_G_codes_1
x30 ∧ True) ∧ True ∧ True ∧ True ∧ True ∧ True ∧ True ∧ True ∧ (W_G_codes_2 a = W_G_codes_2 a ∧ True) ∧ True ∧ (W_G_codes_3 a = W_G_codes_3 a ∧ W_G_codes_3 a = W_G_codes_3 a ∧
True) ∧ True ∧ True ∧ True ∧ True ∧ True) ∧ ∃ (x75 : F1), (x75.1.2 ≤ 4000 ∧ OwB x75.1 (enc (cutA a.1) (cutX x))) ∧ (a.3 = a.3 ∧ 0 = 0 ∧ (0 = 0 ∧ x75.1.1 = x30.1.1 ∧ x75.1.2 =
x30.1.2) ∧ True) ∧ ((True ∧ Z4 (cutA a.1).1 ∧ Z4 (cutA a.1).2 ∧ Z4 (cutA a.1).3 ∧ ZR a.1) ∧ (True ∧ FlatL x75.1.3 ∧ x75.1.3 = x30.1.3) ∧ ZF a.1.1.5 ∧ ZF a.1.2.5 ∧ ZF a.1.3.5 ∧ ZF
a.2.1.5 ∧ ZF a.2.2.5 ∧ ZF a.2.3.5 ∧ ZF cells0 ∧ ZF cells1 ∧ ZF cells2 ∧ ZF cells4 ∧ ZF cells5 ∧ ZF cells6 ∧ ZF cells8 ∧ ZF cells9 ∧ ZF cells10 ∧ True) ∧ True)) ∧ True) ∧ True) ∧
True) ∧ True) ∧ (x55.1 = false → ((True ∧ True ∧ True) ∧ True ∧ True ∧ True ∧ True ∧ True ∧ True ∧ True ∧ True ∧ (True ∧ True) ∧ True ∧ True ∧ True ∧ True ∧ True ∧ True ∧ True ∧
True ∧ True ∧ True ∧ True ∧ (W_G_codes_1 x30 = W_G_codes_1 x30 ∧ True) ∧ True ∧ True ∧ True ∧ True ∧ True ∧ True ∧ True ∧ True ∧ True ∧ True ∧ True ∧ True ∧ True ∧ True ∧ True) ∧ ∃
(x76 : Unit), True ∧ true = false ∧ True)) ∧ True) ∧ True))) ∧ True) ∧ True) ∧ (∀ (x77 : Unit), (∀ (x78 x79 : List Int), SB false (nat_lit 0) x30.1.1 x30.1.2 x30.1.3 x78 → SB false
(nat_lit 0) (List.length x35.2) x35.1 x35.2 x79 → x78 ≠ x79) → ((True ∧ True ∧ True) ∧ True ∧ True ∧ True ∧ True ∧ True ∧ True ∧ True ∧ True ∧ True ∧ True ∧ True ∧ True ∧ True ∧
True ∧ True ∧ True ∧ True ∧ True ∧ True ∧ True ∧ True ∧ True ∧ True ∧ True ∧ True ∧ True ∧ True ∧ True ∧ True ∧ True ∧ True ∧ True ∧ True ∧ True ∧ True ∧ True) ∧ ∃ (x80 : Unit),
True ∧ true = false ∧ True) ∧ True) ∧ True) ∧ True) ∧ ∀ (x81 : F1), x81.1.2 ≤ 4000 ∧ OwB x81.1 (enc (cutA a.1) (cutX x)) → (True ∧ (∃ (x82 : PX), PH (cutA a.1) x82) ∧ Min.min
a.1.1.3 70 ≤ 100 ∧ Min.min a.1.2.3 10 ≤ 100 ∧ Min.min a.1.3.3 10 ≤ 100) ∧ (((Z4 (cutA a.1).1 ∧ Z4 (cutA a.1).2 ∧ Z4 (cutA a.1).3 ∧ ZR a.1) ∧ True) ∧ ZF a.1.1.5 ∧ ZF a.1.2.5 ∧ ZF
a.1.3.5 ∧ True) ∧ (∀ (x83 : PB), (∀ (x84 : PX), PH (cutA a.1) x84 → PH (PA.mk (SA.mk a.1.1.1 0 (Min.min a.1.1.3 70) x83.1.1 x83.1.2) (SA.mk a.1.2.1 0 (Min.min a.1.2.3 10) x83.2.1
x83.2.2) (SA.mk a.1.3.1 0 (Min.min a.1.3.3 10) x83.3.1 x83.3.2) a.1.4 a.1.5 a.1.6 a.1.7 a.1.8) x84) → (True ∧ ((∃ (x85 : PX), PH (PA.mk (SA.mk a.1.1.1 0 (Min.min a.1.1.3 70)
x83.1.1 x83.1.2) (SA.mk a.1.2.1 0 (Min.min a.1.2.3 10) x83.2.1 x83.2.2) (SA.mk a.1.3.1 0 (Min.min a.1.3.3 10) x83.3.1 x83.3.2) a.1.4 a.1.5 a.1.6 a.1.7 a.1.8) x85) ∧ ∃ (x86 : PX),
PH (cutA a.1) x86) ∧ (Min.min a.1.1.3 70 ≤ 1000 ∧ Min.min a.1.2.3 10 ≤ 1000 ∧ Min.min a.1.3.3 10 ≤ 1000) ∧ Min.min a.1.1.3 70 ≤ 1000 ∧ Min.min a.1.2.3 10 ≤ 1000 ∧ Min.min a.1.3.3
10 ≤ 1000) ∧ ((((a.1.1.1 = a.1.1.1 ∧ nat_lit 0 = 0 ∧ Min.min a.1.1.3 70 = Min.min a.1.1.3 70 ∧ x83.1.1 = x83.1.1) ∧ (a.1.2.1 = a.1.2.1 ∧ nat_lit 0 = 0 ∧ Min.min a.1.2.3 10 =
Min.min a.1.2.3 10 ∧ x83.2.1 = x83.2.1) ∧ (a.1.3.1 = a.1.3.1 ∧ nat_lit 0 = 0 ∧ Min.min a.1.3.3 10 = Min.min a.1.3.3 10 ∧ x83.3.1 = x83.3.1) ∧ ZR a.1) ∧ (Z4 (cutA a.1).1 ∧ Z4 (cutA
a.1).2 ∧ Z4 (cutA a.1).3 ∧ ZR a.1) ∧ True) ∧ ZF x83.1.2 ∧ ZF x83.2.2 ∧ ZF x83.3.2 ∧ ZF a.1.1.5 ∧ ZF a.1.2.5 ∧ ZF a.1.3.5 ∧ True) ∧ (∀ (x87 : BL), (∀ (x88 x89 : PX), PH (PA.mk
(SA.mk a.1.1.1 0 (Min.min a.1.1.3 70) x83.1.1 x83.1.2) (SA.mk a.1.2.1 0 (Min.min a.1.2.3 10) x83.2.1 x83.2.2) (SA.mk a.1.3.1 0 (Min.min a.1.3.3 10) x83.3.1 x83.3.2) a.1.4 a.1.5
a.1.6 a.1.7 a.1.8) x88 → PH (cutA a.1) x89 → (x87.1 = true ↔ x88 = x89 ∧ RollsEq (PA.mk (SA.mk a.1.1.1 0 (Min.min a.1.1.3 70) x83.1.1 x83.1.2) (SA.mk a.1.2.1 0 (Min.min a.1.2.3 10)
x83.2.1 x83.2.2) (SA.mk a.1.3.1 0 (Min.min a.1.3.3 10) x83.3.1 x83.3.2) a.1.4 a.1.5 a.1.6 a.1.7 a.1.8) (cutA a.1))) → (x87.1 = true → ∀ (x90 : Int), x90 = (↑(Min.min a.1.1.3 70) :
Int) → ((0 : Int) < x90 → ∀ (x91 : Int), x91 = (↑(Min.min a.1.1.3 70) : Int) → ∀ (x92 : Int), x92 = (↑(Min.min a.1.1.3 70) : Int) → (x91 = x92 → ∀ x93, x93 = IntKind.wrap .u64 a.3
→ ∀ (x94 : Int), x94 = (↑(Min.min a.1.1.3 70) : Int) → ∀ x95, x95 = IntKind.wrap .u64 x94 → x95 ≠ (0 : Int) ∧ ∀ (x96 : Int), x96 = Int.tmod x93 x95 → ∀ x97, x97 = IntKind.wrap .i64
x96 → ((0 : Int) ≤ x97 ∧ x97 < (↑(Min.min a.1.1.3 70) : Int)) ∧ ∀ (x98 : Nat), x98 = 0 + Int.toNat x97 * 1 → ∃ (x99 : Int), Rd x83.1.2 (Nat.add x98 0) (Value.int IntKind.i32 x99) ∧
∀ x100, x100 = IntKind.wrap .i32 (x99 + (1 : Int)) → ((0 : Int) ≤ x97 ∧ x97 < (↑(Min.min a.1.1.3 70) : Int)) ∧ ∀ (x101 : Nat), x101 = 0 + Int.toNat x97 * 1 → x101 + 1 ≤ List.length
x83.1.2 ∧ ∀ (x102 : List Value), x102 = lput x83.1.2 x101 [Value.iface 1000000007 (Value.int IntKind.i32 x100)] → (True ∧ True ∧ True ∧ True ∧ True ∧ True ∧ True ∧ True ∧ True ∧
True ∧ True ∧ True ∧ True ∧ True ∧ True ∧ True) ∧ (True ∧ True) ∧ (True ∧ ZF cells0 ∧ ZF cells1 ∧ ZF cells2 ∧ ZF cells4 ∧ ZF cells5 ∧ ZF cells6 ∧ ZF cells8 ∧ ZF cells9 ∧ ZF cells10
∧ True) ∧ (∀ (x103 : Unit), True → (True ∧ ((∃ (x104 : PX), PH (PA.mk (SA.mk a.1.1.1 0 (Min.min a.1.1.3 70) x83.1.1 x102) (SA.mk a.1.2.1 0 (Min.min a.1.2.3 10) x83.2.1 x83.2.2)
(SA.mk a.1.3.1 0 (Min.min a.1.3.3 10) x83.3.1 x83.3.2) a.1.4 a.1.5 a.1.6 a.1.7 a.1.8) x104) ∧ ∃ (x105 : PX), PH (cutA a.1) x105) ∧ (Min.min a.1.1.3 70 ≤ 1000 ∧ Min.min a.1.2.3 10 ≤
1000 ∧ Min.min a.1.3.3 10 ≤ 1000) ∧ Min.min a.1.1.3 70 ≤ 1000 ∧ Min.min a.1.2.3 10 ≤ 1000 ∧ Min.min a.1.3.3 10 ≤ 1000) ∧ ((((a.1.1.1 = a.1.1.1 ∧ nat_lit 0 = 0 ∧ Min.min a.1.1.3 70
= Min.min a.1.1.3 70 ∧ x83.1.1 = x83.1.1) ∧ (a.1.2.1 = a.1.2.1 ∧ nat_lit 0 = 0 ∧ Min.min a.1.2.3 10 = Min.min a.1.2.3 10 ∧ x83.2.1 = x83.2.1) ∧ (a.1.3.1 = a.1.3.1 ∧ nat_lit 0 = 0 ∧
Min.min a.1.3.3 10 = Min.min a.1.3.3 10 ∧ x83.3.1 = x83.3.1) ∧ ZR a.1) ∧ (Z4 (cutA a.1).1 ∧ Z4 (cutA a.1).2 ∧ Z4 (cutA a.1).3 ∧ ZR a.1) ∧ True) ∧ ZF x102 ∧ ZF x83.2.2 ∧ ZF x83.3.2
∧ ZF a.1.1.5 ∧ ZF a.1.2.5 ∧ ZF a.1.3.5 ∧ True) ∧ (∀ (x106 : BL), (∀ (x107 x108 : PX), PH (PA.mk (SA.mk a.1.1.1 0 (Min.min a.1.1.3 70) x83.1.1 x102) (SA.mk a.1.2.1 0 (Min.min
a.1.2.3 10) x83.2.1 x83.2.2) (SA.mk a.1.3.1 0 (Min.min a.1.3.3 10) x83.3.1 x83.3.2) a.1.4 a.1.5 a.1.6 a.1.7 a.1.8) x107 → PH (cutA a.1) x108 → (x106.1 = true ↔ x107 = x108 ∧
RollsEq (PA.mk (SA.mk a.1.1.1 0 (Min.min a.1.1.3 70) x83.1.1 x102) (SA.mk a.1.2.1 0 (Min.min a.1.2.3 10) x83.2.1 x83.2.2) (SA.mk a.1.3.1 0 (Min.min a.1.3.3 10) x83.3.1 x83.3.2)
a.1.4 a.1.5 a.1.6 a.1.7 a.1.8) (cutA a.1))) → (x106.1 = true → ∃ (x109 : Unit), True ∧ true = false ∧ True) ∧ (x106.1 = false → (True ∧ (∃ (x110 : PX), PH (cutA a.1) x110 ∧ PW
(cutA a.1) x110 ∧ Byts8 x110.3) ∧ Min.min a.1.1.3 70 ≤ 100 ∧ Min.min a.1.2.3 10 ≤ 100 ∧ Min.min a.1.3.3 10 ≤ 100) ∧ (((Z4 (cutA a.1).1 ∧ Z4 (cutA a.1).2 ∧ Z4 (cutA a.1).3 ∧ ZR a.1)
∧ True) ∧ ZF a.1.1.5 ∧ ZF a.1.2.5 ∧ ZF a.1.3.5 ∧ True) ∧ (∀ (x111 : OW), (x111.2 ≤ 4000 ∧ ∀ (x112 : PX), PH (cutA a.1) x112 → OwB x111 (enc (cutA a.1) x112)) → (True ∧ (∃ (x113 :
List Int), ∃ (x114 : List Int), SB false (nat_lit 0) x111.1 x111.2 x111.3 x113 ∧ SB false (nat_lit 0) x81.1.1 x81.1.2 x81.1.3 x114) ∧ x111.1 ≤ 1000000 ∧ x81.1.1 ≤ 1000000) ∧
(((false = false ∧ nat_lit 0 = 0 ∧ x111.1 = x111.1 ∧ x111.2 = x111.2) ∧ (false = false ∧ nat_lit 0 = 0 ∧ x81.1.1 = x81.1.1 ∧ x81.1.2 = x81.1.2) ∧ True) ∧ ZF x111.3 ∧ ZF x81.1.3 ∧
True) ∧ (∀ (x115 : Unit), (∀ (x116 x117 : List Int), SB false (nat_lit 0) x111.1 x111.2 x111.3 x116 → SB false (nat_lit 0) x81.1.1 x81.1.2 x81.1.3 x117 → x116 = x117) → ∃ (x118 :
Unit), True ∧ true = true ∧ True) ∧ (∀ (x119 : Unit), (∀ (x120 x121 : List Int), SB false (nat_lit 0) x111.1 x111.2 x111.3 x120 → SB false (nat_lit 0) x81.1.1 x81.1.2 x81.1.3 x121
→ x120 ≠ x121) → ∃ (x122 : Unit), True ∧ true = false ∧ True) ∧ True) ∧ True)) ∧ True) ∧ True) ∧ (¬x91 = x92 → (True ∧ True) ∧ (True ∧ ZF cells0 ∧ ZF cells1 ∧ ZF cells2 ∧ ZF cells4
∧ ZF cells5 ∧ ZF cells6 ∧ ZF cells8 ∧ ZF cells9 ∧ ZF cells10 ∧ True) ∧ (∀ (x123 : Unit), True → ∃ (x124 : Unit), True ∧ true = true ∧ True) ∧ True)) ∧ (¬(0 : Int) < x90 → (True ∧
True) ∧ (True ∧ ZF cells0 ∧ ZF cells1 ∧ ZF cells2 ∧ ZF cells4 ∧ ZF cells5 ∧ ZF cells6 ∧ ZF cells8 ∧ ZF cells9 ∧ ZF cells10 ∧ True) ∧ (∀ (x125 : Unit), True → ∃ (x126 : Unit), True
∧ true = true ∧ True) ∧ True)) ∧ (x87.1 = false → ∃ (x127 : Unit), True ∧ true = false ∧ True)) ∧ True) ∧ True) ∧ True) ∧ True) := by kernel_rfl
def zPR : PR := ⟨⟨true, 0, 0, []⟩, ⟨true, 0, 0, []⟩, ⟨true, 0, 0, []⟩, 0, 0, 0, 0, 0⟩
def PR.pa (p : PR) : PA := ⟨⟨p.v.n, 0, p.v.l, p.v.k, p.v.c⟩, ⟨p.g.n, 0, p.g.l, p.g.k, p.g.c⟩, ⟨p.t.n, 0, p.t.l, p.t.k, p.t.c⟩, p.r0, p.r1, p.r2, p.r3, p.r4⟩
def encZ : List Int := enc zPR.pa ⟨[], [], []⟩
structure GoodP (xs : List Int) (p : PR) (e : Int) (x : PX) : Prop where
  h : PH p.pa x
  w : PW p.pa x
  b : Byts8 x.tips
  l1 : p.v.l ≤ 64
  l2 : p.g.l ≤ 8
  l3 : p.t.l ≤ 8
  f1 : FlatL p.v.c
  f2 : FlatL p.g.c
  f3 : FlatL p.t.c
  enc : enc p.pa x = if e = 0 then xs else encZ
theorem isP.good {xs : List Int} {p : PR} {e : Int} (hb : Byts8 xs) (h : isP xs p e) : ∃ x : PX, GoodP xs p e x := by
  by_cases he : e = 0
  · obtain ⟨⟨h1, h2, h3⟩, r0, r1, r2, r3, r4⟩ := h.ok he
    have hc := decP_can hb (h.er.symm.trans he)
    obtain ⟨k, k1, k2⟩ := hc.t
    have hk : p.t.l = k := by have := h3.l; omega
    have f2 := h2.he.flatB
    have f3 := h3.he.flat
    refine ⟨⟨(decP xs).v, (decP xs).g, (decP xs).t⟩, ⟨h1.sli, h2.sli (by decide) f2, h3.sli (by decide) f3⟩, ⟨hc.w, ?_, ?_, ?_, ?_, ?_⟩, hc.b, by have := h1.l; have := hc.v; omega, by have := h2.l; have := hc.g; omega, by omega, h1.flat, f2, f3, ?_⟩
    · show -9223372036854775808 ≤ p.r0 ∧ p.r0 ≤ 9223372036854775807; rw [r0]; exact hc.r0
    · show -9223372036854775808 ≤ p.r1 ∧ p.r1 ≤ 9223372036854775807; rw [r1]; exact hc.r1
    · show -9223372036854775808 ≤ p.r2 ∧ p.r2 ≤ 9223372036854775807; rw [r2]; exact hc.r2
    · show -9223372036854775808 ≤ p.r3 ∧ p.r3 ≤ 9223372036854775807; rw [r3]; exact hc.r3
    · show 0 ≤ p.r4 ∧ p.r4 < 18446744073709551616; rw [r4]; exact hc.r4
    · rw [if_pos he]; exact hc.enc p.pa (by show p.t.l * 8 = _; omega) r0 r1 r2 r3 r4
  · obtain rfl := h.no he
    refine ⟨⟨[], [], []⟩, ⟨.none, .none, .none⟩, ⟨fun n hn => absurd hn (by simp), ?_, ?_, ?_, ?_, ?_⟩, fun n hn => absurd hn (by simp), Nat.zero_le _, Nat.zero_le _, Nat.zero_le _, flatL_nil, flatL_nil, flatL_nil, ?_⟩
    · show (-9223372036854775808 : Int) ≤ 0 ∧ (0 : Int) ≤ 9223372036854775807; decide
    · show (-9223372036854775808 : Int) ≤ 0 ∧ (0 : Int) ≤ 9223372036854775807; decide
    · show (-9223372036854775808 : Int) ≤ 0 ∧ (0 : Int) ≤ 9223372036854775807; decide
    · show (-9223372036854775808 : Int) ≤ 0 ∧ (0 : Int) ≤ 9223372036854775807; decide
    · show (0 : Int) ≤ 0 ∧ (0 : Int) < 18446744073709551616; decide
    · rw [if_neg he]; rfl
theorem hvPut32 {c : List Value} {xs : List Int} {z : Int} {i : Nat} (h : HI .i32 c 0 xs) (hl : xs.length ≤ c.length) (hi : i < xs.length) : HI .i32 (lput c i [tgI .i32 z]) 0 (xs.set i z) := fun j x hx => by
  rw [Nat.zero_add]
  unfold Rd lput
  by_cases e : j = i
  · subst e
    rw [List.getElem?_set_self (by omega)] at hx
    cases hx
    right
    rw [List.getElem?_append_right (by simp; omega)]
    simp [show j - min j c.length = 0 by omega]
    rfl
  · rw [List.getElem?_set_ne (by omega)] at hx
    have := h j x hx
    rw [Nat.zero_add] at this
    unfold Rd at this
    by_cases hj : j < i
    · rw [List.getElem?_append_left (by simp; omega), List.getElem?_take_of_lt hj]; exact this
    · rw [List.getElem?_append_right (by simp; omega)]
      have e1 : j - (List.take i c).length = (j - i - 1) + 1 := by simp; omega
      rw [e1, List.singleton_append, List.getElem?_cons_succ, List.getElem?_drop]
      have e2 : i + [tgI .i32 z].length + (j - i - 1) = j := by simp; omega
      rw [e2]; exact this
theorem flat_put {c : List Value} {k : IntKind} {z : Int} {i : Nat} (h : FlatL c) : FlatL (lput c i [tgI k z]) := fun v hv => by
  unfold lput at hv
  rw [List.mem_append, List.mem_append] at hv
  rcases hv with hv | hv | hv
  · exact h v (List.mem_of_mem_take hv)
  · rw [List.mem_singleton] at hv; subst hv; rfl
  · exact h v (List.mem_of_mem_drop hv)
theorem t_of : SpecOK Tryz.prog T_of.spec := s_of
theorem t_cut : SpecOK Tryz.prog T_cut.spec := s_cut
theorem t_enc : SpecOK Tryz.prog T_enc.spec := s_enc
theorem t_clone : SpecOK Tryz.prog T_clone.spec := s_clone
theorem t_same17 : SpecOK Tryz.prog T_same17.spec := s_same17
theorem cut_in {a : PA} {x : PX} (h : PH a x) (w : PW a x) (b : Byts8 x.tips) : PH (cutA a) (cutX x) ∧ PW (cutA a) (cutX x) ∧ Byts8 (cutX x).tips :=
  ⟨⟨Sli.cut (q := 70) h.p1 rfl, Sli.cut (q := 10) h.p2 rfl, Sli.cut (q := 10) h.p3 rfl⟩, ⟨fun n hn => w.v n (List.mem_of_mem_take hn), w.r0, w.r1, w.r2, w.r3, w.r4⟩, fun n hn => b n (List.mem_of_mem_take hn)⟩
theorem Sli.put {n : Bool} {l k i : Nat} {c : List Value} {xs : List Int} {z : Int} (h : Sli (Value.int .i32) 1 n 0 l k c xs) (hi : i < l) : Sli (Value.int .i32) 1 n 0 l k (lput c i [tgI .i32 z]) (xs.set i z) := by
  have hn : n = false := by
    cases n with
    | false => rfl
    | true => have := (h.nil rfl).1; omega
  have hf := h.fit hn
  have hl := h.len
  exact ⟨hvPut32 h.at_ (by omega) (by omega), by rw [List.length_set, hl], h.nil, fun _ => by simp [lput]; omega, h.cap, flat_put h.flat⟩
theorem wrap_ne {z : Int} (h : -2147483648 ≤ z ∧ z ≤ 2147483647) : IntKind.wrap .i32 (z + 1) ≠ z := by
  rw [wrap_i32]; omega
set_option maxHeartbeats 1000000 in
theorem g_codes (a : PAt) (x y : PX) (hx0 : PH a.p x) (wx0 : PW a.p x) (bx0 : Byts8 x.tips) (hy0 : PH a.o y) (wy0 : PW a.o y) (by0 : Byts8 y.tips) (hn : -9223372036854775808 ≤ a.n ∧ a.n ≤ 9223372036854775807) : G_codes a x := by
  have f1 := hx0.p1.flat
  have f2 := hx0.p2.flat
  have f3 := hx0.p3.flat
  have f4 := hy0.p1.flat
  have f5 := hy0.p2.flat
  have f6 := hy0.p3.flat
  obtain ⟨hx, wx, bx⟩ := cut_in hx0 wx0 bx0
  obtain ⟨hy, wy, byy⟩ := cut_in hy0 wy0 by0
  obtain ⟨w0, w1, w2, w3, w4, w5, w6, w7, w8⟩ := gl
  have f0 := flatL_nil
  have m1 : min a.p.s1.l 70 ≤ 70 := by omega
  have m2 : min a.p.s2.l 10 ≤ 10 := by omega
  have m3 : min a.p.s3.l 10 ≤ 10 := by omega
  have m4 : min a.o.s1.l 70 ≤ 70 := by omega
  have m5 : min a.o.s2.l 10 ≤ 10 := by omega
  have m6 : min a.o.s3.l 10 ≤ 10 := by omega
  have lx1 : (cutX x).vars.length = min a.p.s1.l 70 := by have := hx.p1.len; rw [Nat.mul_one] at this; exact this
  have lx2 : (cutX x).gone.length = min a.p.s2.l 10 := by have := hx.p2.len; rw [Nat.mul_one] at this; exact this
  have hb : Byts8 (enc (cutA a.p) (cutX x)) := byts_enc _ _
  have ne4 : (decP (enc (cutA a.p) (cutX x))).e ≠ 4 := enc_ne4 wx (by omega) (by omega) (by show min a.p.s3.l 10 < _; omega)
  have sl : ∀ {b : OW}, OwB b (enc (cutA a.p) (cutX x)) → Sli (Value.int .u8) 1 false 0 b.l b.k b.c (enc (cutA a.p) (cutX x)) := fun h => h.sli
  have okP : ∀ (l k : Nat) (c : List Value) (p : PR), Sli (Value.int .u8) 1 false 0 l k c (enc (cutA a.p) (cutX x)) → (∀ ys : List Int, Sli (Value.int .u8) 1 false 0 l k c ys → endC ys (r4C ys).at_ (r4C ys).e = 0 ∧ (LC p.v (dWC ys).ws ∧ LF Value.bool 1 p.g (goneL (dGC ys).ns) ∧ LF (Value.int .u8) 8 p.t (tipsL (dTC ys).ns)) ∧ p.r0 = unfI (r0C ys).n ∧ p.r1 = unfI (r1C ys).n ∧ p.r2 = unfI (r2C ys).n ∧ p.r3 = unfI (r3C ys).n ∧ p.r4 = (r4C ys).n) → isP (enc (cutA a.p) (cutX x)) p 0 := fun l k c p hs h => ⟨(h _ hs).1.symm, fun _ => (h _ hs).2, fun h => absurd rfl h⟩
  have noP : ∀ (l k : Nat) (c : List Value) (e : Int), Sli (Value.int .u8) 1 false 0 l k c (enc (cutA a.p) (cutX x)) → (e ≠ 0 ∧ ∀ ys : List Int, Sli (Value.int .u8) 1 false 0 l k c ys → endC ys (r4C ys).at_ (r4C ys).e = e) → isP (enc (cutA a.p) (cutX x)) zPR e := fun l k c e hs h => ⟨(h.2 _ hs).symm, fun h0 => absurd h0 h.1, fun _ => rfl⟩
  rw [vc_codes]
  refine ⟨⟨trivial, ⟨x, hx0⟩, trivial⟩, ?_, fun _ _ => ⟨⟨trivial, ⟨y, hy0⟩, trivial⟩, ?_, fun _ _ => ⟨?_, ⟨⟨trivial, ⟨cutX x, hx, wx, bx⟩, by omega, by omega, by omega⟩, ?_, fun b hbb => ?_, trivial⟩, fun b hJ => ?_⟩, trivial⟩, trivial⟩
  · repeat' first | with_reducible apply And.intro | exact trivial | exact rfl | assumption
  · repeat' first | with_reducible apply And.intro | exact trivial | exact rfl | assumption
  · repeat' first | with_reducible apply And.intro | exact trivial | exact rfl | assumption
  · repeat' first | with_reducible apply And.intro | exact trivial | exact rfl | assumption
  · have ho : OwB b (enc (cutA a.p) (cutX x)) := hbb.2 _ hx
    have fb := ho.flat
    refine ⟨⟨b⟩, ⟨hbb.1, ho⟩, ?_⟩
    repeat' first | with_reducible apply And.intro | exact trivial | exact rfl | assumption
  -- the program's Decode
  obtain ⟨b⟩ := b
  obtain ⟨hk, ho⟩ := hJ
  dsimp only at hk
  have ho : OwB b (enc (cutA a.p) (cutX x)) := ho
  have fb : FlatL b.c := ho.flat
  have lb : b.l ≤ b.k := ho.le
  have lb5 : b.l ≤ 100000 := by omega
  have lb6 : b.l ≤ 1000000 := by omega
  refine ⟨⟨⟨trivial, ⟨_, ho.sli, hb⟩, lb5⟩, ?_, fun r hr => ?_, fun r hr => ?_, trivial⟩, fun b2 hJ => ?_⟩
  · repeat' first | with_reducible apply And.intro | exact trivial | exact rfl | assumption
  · have ip := okP b.l b.k b.c r ho.sli hr
    obtain ⟨_, k⟩ := ip.good hb
    have g1 := k.f1
    have g2 := k.f2
    have g3 := k.f3
    refine ⟨⟨b, r, 0⟩, ⟨⟨hk, ho⟩, ip⟩, ?_⟩
    repeat' first | with_reducible apply And.intro | exact trivial | exact rfl | assumption
  · have ip := noP b.l b.k b.c r.e ho.sli hr
    refine ⟨⟨b, zPR, r.e⟩, ⟨⟨hk, ho⟩, ip⟩, ?_⟩
    repeat' first | with_reducible apply And.intro | exact trivial | exact rfl | assumption
  -- the document's
  obtain ⟨b, p, e⟩ := b2
  obtain ⟨⟨hk, ho⟩, ip⟩ := hJ
  dsimp only at hk
  have ho : OwB b (enc (cutA a.p) (cutX x)) := ho
  have ip : isP (enc (cutA a.p) (cutX x)) p e := ip
  have fb : FlatL b.c := ho.flat
  have lb : b.l ≤ b.k := ho.le
  have lb5 : b.l ≤ 100000 := by omega
  have lb6 : b.l ≤ 1000000 := by omega
  obtain ⟨z, kp⟩ := ip.good hb
  have p1 := kp.f1
  have p2 := kp.f2
  have p3 := kp.f3
  refine ⟨⟨⟨trivial, ⟨_, hx⟩, by omega⟩, ?_, fun q hq => ?_, trivial⟩, fun b2 hJ => ?_⟩
  · repeat' first | with_reducible apply And.intro | exact trivial | exact rfl | assumption
  · have hq := hq _ hx.p3
    have fq := hq.flat
    have hx2 : PH ⟨⟨a.p.s1.n, a.p.s1.o, min a.p.s1.l 70, a.p.s1.k, a.p.s1.c⟩, ⟨a.p.s2.n, a.p.s2.o, min a.p.s2.l 10, a.p.s2.k, a.p.s2.c⟩, ⟨q.n, 0, min a.p.s3.l 10, q.k, q.c⟩, a.p.r0, a.p.r1, a.p.r2, a.p.r3, a.p.r4⟩ (cutX x) := ⟨hx.p1, hx.p2, hq⟩
    have wx2 : PW ⟨⟨a.p.s1.n, a.p.s1.o, min a.p.s1.l 70, a.p.s1.k, a.p.s1.c⟩, ⟨a.p.s2.n, a.p.s2.o, min a.p.s2.l 10, a.p.s2.k, a.p.s2.c⟩, ⟨q.n, 0, min a.p.s3.l 10, q.k, q.c⟩, a.p.r0, a.p.r1, a.p.r2, a.p.r3, a.p.r4⟩ (cutX x) := ⟨wx.v, wx.r0, wx.r1, wx.r2, wx.r3, wx.r4⟩
    refine ⟨⟨trivial, ⟨_, hx2, wx2⟩, m1, m2, m3⟩, ?_, fun s hs => ?_, trivial⟩
    · repeat' first | with_reducible apply And.intro | exact trivial | exact rfl | assumption
    obtain ⟨s1, s2, s3⟩ := hs _ hx2
    have s1 : HE .u8 s.c (enc (cutA a.p) (cutX x)) := s1
    have fs := s1.flat
    have ss : Sli (Value.int .u8) 1 false 0 s.c.length s.k s.c (enc (cutA a.p) (cutX x)) := .row s1 (by rw [s1.len]; omega) s2 fs
    refine ⟨⟨trivial, ⟨_, ss, hb, ne4⟩, by omega⟩, ?_, fun r hr => ?_, fun r hr => ?_, trivial⟩
    · repeat' first | with_reducible apply And.intro | exact trivial | exact rfl | assumption
    · have iq := okP _ _ _ r ss hr
      obtain ⟨_, k⟩ := iq.good hb
      have g1 := k.f1
      have g2 := k.f2
      have g3 := k.f3
      refine ⟨⟨b, p, e, r, 0⟩, ⟨⟨hk, ho⟩, ip, iq⟩, ?_⟩
      repeat' first | with_reducible apply And.intro | exact trivial | exact rfl | assumption
    · have iq := noP _ _ _ r.e ss hr
      refine ⟨⟨b, p, e, zPR, r.e⟩, ⟨⟨hk, ho⟩, ip, iq⟩, ?_⟩
      repeat' first | with_reducible apply And.intro | exact trivial | exact rfl | assumption
  -- all that is compared
  obtain ⟨b, p, e, q, f⟩ := b2
  obtain ⟨⟨hk, ho⟩, ip, iq⟩ := hJ
  dsimp only at hk
  have ho : OwB b (enc (cutA a.p) (cutX x)) := ho
  have ip : isP (enc (cutA a.p) (cutX x)) p e := ip
  have iq : isP (enc (cutA a.p) (cutX x)) q f := iq
  have ef : e = f := ip.er.trans iq.er.symm
  subst ef
  have fb : FlatL b.c := ho.flat
  have lb : b.l ≤ b.k := ho.le
  have lb5 : b.l ≤ 100000 := by omega
  have lb6 : b.l ≤ 1000000 := by omega
  obtain ⟨z, kp⟩ := ip.good hb
  obtain ⟨v, kq⟩ := iq.good hb
  have p1 := kp.f1
  have p2 := kp.f2
  have p3 := kp.f3
  have q1 := kq.f1
  have q2 := kq.f2
  have q3 := kq.f3
  have lp1 : p.v.l ≤ 70 := Nat.le_trans kp.l1 (by decide)
  have lp2 : p.g.l ≤ 10 := Nat.le_trans kp.l2 (by decide)
  have lp3 : p.t.l ≤ 10 := Nat.le_trans kp.l3 (by decide)
  have lp4 : p.t.l ≤ 100 := Nat.le_trans kp.l3 (by decide)
  have lq1 : q.v.l ≤ 70 := Nat.le_trans kq.l1 (by decide)
  have lq2 : q.g.l ≤ 10 := Nat.le_trans kq.l2 (by decide)
  have lq3 : q.t.l ≤ 10 := Nat.le_trans kq.l3 (by decide)
  refine ⟨⟨⟨trivial, ⟨_, hx⟩, by omega⟩, ?_, fun r hr => ?_, trivial⟩, fun b2 hJ => ?_⟩
  · repeat' first | with_reducible apply And.intro | exact trivial | exact rfl | assumption
  · have hr := hr _ hx.p3
    have fr := hr.flat
    have hx2 : PH ⟨⟨a.p.s1.n, a.p.s1.o, min a.p.s1.l 70, a.p.s1.k, a.p.s1.c⟩, ⟨a.p.s2.n, a.p.s2.o, min a.p.s2.l 10, a.p.s2.k, a.p.s2.c⟩, ⟨r.n, 0, min a.p.s3.l 10, r.k, r.c⟩, a.p.r0, a.p.r1, a.p.r2, a.p.r3, a.p.r4⟩ (cutX x) := ⟨hx.p1, hx.p2, hr⟩
    have wx2 : PW ⟨⟨a.p.s1.n, a.p.s1.o, min a.p.s1.l 70, a.p.s1.k, a.p.s1.c⟩, ⟨a.p.s2.n, a.p.s2.o, min a.p.s2.l 10, a.p.s2.k, a.p.s2.c⟩, ⟨r.n, 0, min a.p.s3.l 10, r.k, r.c⟩, a.p.r0, a.p.r1, a.p.r2, a.p.r3, a.p.r4⟩ (cutX x) := ⟨wx.v, wx.r0, wx.r1, wx.r2, wx.r3, wx.r4⟩
    refine ⟨⟨trivial, ⟨_, hx2, wx2⟩, m1, m2, m3⟩, ?_, fun s hs => ?_, trivial⟩
    · repeat' first | with_reducible apply And.intro | exact trivial | exact rfl | assumption
    obtain ⟨s1, s2, s3⟩ := hs _ hx2
    have s1 : HE .u8 s.c (enc (cutA a.p) (cutX x)) := s1
    have fs := s1.flat
    have ss : Sli (Value.int .u8) 1 false 0 s.c.length s.k s.c (enc (cutA a.p) (cutX x)) := .row s1 (by rw [s1.len]; omega) s2 fs
    refine ⟨⟨trivial, ⟨_, _, ho.sli, ss⟩, lb6, by omega⟩, ?_, fun _ _ => ?_, fun _ hne => absurd rfl (hne _ _ ho.sli ss), trivial⟩
    · repeat' first | with_reducible apply And.intro | exact trivial | exact rfl | assumption
    refine ⟨⟨trivial, ⟨_, hx, wx, bx⟩, by omega, by omega, by omega⟩, ?_, fun d hd => ?_, trivial⟩
    · repeat' first | with_reducible apply And.intro | exact trivial | exact rfl | assumption
    have hd : d = ofC (enc (cutA a.p) (cutX x)) := hd _ hx
    refine ⟨⟨trivial, ⟨_, ho.sli, hb⟩, lb5⟩, ?_, fun g hg => ?_, trivial⟩
    · repeat' first | with_reducible apply And.intro | exact trivial | exact rfl | assumption
    have hg : g = ofC (enc (cutA a.p) (cutX x)) := hg _ ho.sli
    have dg : d = g := hd.trans hg.symm
    subst dg
    refine ⟨fun h => absurd ⟨rfl, rfl, rfl, rfl, rfl, rfl, rfl, rfl, trivial⟩ h, fun _ => ⟨fun h => absurd rfl h, fun _ => ?_⟩⟩
    refine ⟨⟨trivial, ⟨z, kp.h⟩, lp4⟩, ?_, fun o ho2 => ?_, trivial⟩
    · repeat' first | with_reducible apply And.intro | exact trivial | exact rfl | assumption
    have ho2 := ho2 _ kp.h.p3
    have fo := ho2.flat
    have h1 : PH ⟨⟨p.v.n, 0, p.v.l, p.v.k, p.v.c⟩, ⟨p.g.n, 0, p.g.l, p.g.k, p.g.c⟩, ⟨o.n, 0, p.t.l, o.k, o.c⟩, p.r0, p.r1, p.r2, p.r3, p.r4⟩ z := ⟨kp.h.p1, kp.h.p2, ho2⟩
    have v1 : PW ⟨⟨p.v.n, 0, p.v.l, p.v.k, p.v.c⟩, ⟨p.g.n, 0, p.g.l, p.g.k, p.g.c⟩, ⟨o.n, 0, p.t.l, o.k, o.c⟩, p.r0, p.r1, p.r2, p.r3, p.r4⟩ z := ⟨kp.w.v, kp.w.r0, kp.w.r1, kp.w.r2, kp.w.r3, kp.w.r4⟩
    refine ⟨⟨trivial, ⟨⟨z, h1, v1⟩, v, kq.h, kq.w⟩, ⟨lp1, lp2, lp3⟩, lq1, lq2, lq3⟩, ?_, fun u hu => ⟨fun _ => ?_, fun hf => ?_⟩, trivial⟩
    · repeat' first | with_reducible apply And.intro | exact trivial | exact rfl | assumption
    rotate_left
    · have := (hu z v h1 kq.h).2 (kp.enc.trans kq.enc.symm)
      exact absurd (this.symm.trans hf) (by decide)
    refine ⟨⟨trivial, ⟨⟨_, hx⟩, _, hy⟩, ⟨by omega, by omega, by omega⟩, by omega, by omega, by omega⟩, ?_, fun u1 hu1 => ?_, trivial⟩
    · repeat' first | with_reducible apply And.intro | exact trivial | exact rfl | assumption
    refine ⟨⟨trivial, ⟨_, hx⟩, by omega⟩, ?_, fun c hc => ?_, trivial⟩
    · repeat' first | with_reducible apply And.intro | exact trivial | exact rfl | assumption
    have hc := hc _ hx.p3
    have fc := hc.flat
    refine ⟨⟨trivial, ⟨_, hy⟩, by omega⟩, ?_, fun c' hc' => ?_, trivial⟩
    · repeat' first | with_reducible apply And.intro | exact trivial | exact rfl | assumption
    have hc' := hc' _ hy.p3
    have fc' := hc'.flat
    have hx3 : PH ⟨⟨a.p.s1.n, a.p.s1.o, min a.p.s1.l 70, a.p.s1.k, a.p.s1.c⟩, ⟨a.p.s2.n, a.p.s2.o, min a.p.s2.l 10, a.p.s2.k, a.p.s2.c⟩, ⟨c.n, 0, min a.p.s3.l 10, c.k, c.c⟩, a.p.r0, a.p.r1, a.p.r2, a.p.r3, a.p.r4⟩ (cutX x) := ⟨hx.p1, hx.p2, hc⟩
    have wx3 : PW ⟨⟨a.p.s1.n, a.p.s1.o, min a.p.s1.l 70, a.p.s1.k, a.p.s1.c⟩, ⟨a.p.s2.n, a.p.s2.o, min a.p.s2.l 10, a.p.s2.k, a.p.s2.c⟩, ⟨c.n, 0, min a.p.s3.l 10, c.k, c.c⟩, a.p.r0, a.p.r1, a.p.r2, a.p.r3, a.p.r4⟩ (cutX x) := ⟨wx.v, wx.r0, wx.r1, wx.r2, wx.r3, wx.r4⟩
    have hy3 : PH ⟨⟨a.o.s1.n, a.o.s1.o, min a.o.s1.l 70, a.o.s1.k, a.o.s1.c⟩, ⟨a.o.s2.n, a.o.s2.o, min a.o.s2.l 10, a.o.s2.k, a.o.s2.c⟩, ⟨c'.n, 0, min a.o.s3.l 10, c'.k, c'.c⟩, a.o.r0, a.o.r1, a.o.r2, a.o.r3, a.o.r4⟩ (cutX y) := ⟨hy.p1, hy.p2, hc'⟩
    have wy3 : PW ⟨⟨a.o.s1.n, a.o.s1.o, min a.o.s1.l 70, a.o.s1.k, a.o.s1.c⟩, ⟨a.o.s2.n, a.o.s2.o, min a.o.s2.l 10, a.o.s2.k, a.o.s2.c⟩, ⟨c'.n, 0, min a.o.s3.l 10, c'.k, c'.c⟩, a.o.r0, a.o.r1, a.o.r2, a.o.r3, a.o.r4⟩ (cutX y) := ⟨wy.v, wy.r0, wy.r1, wy.r2, wy.r3, wy.r4⟩
    refine ⟨⟨trivial, ⟨⟨_, hx3, wx3⟩, _, hy3, wy3⟩, ⟨m1, m2, m3⟩, m4, m5, m6⟩, ?_, fun u2 hu2 => ⟨fun hne => ?_, fun heq => ⟨?_, ⟨b⟩, ⟨hk, ho⟩, ?_⟩⟩, trivial⟩
    · repeat' first | with_reducible apply And.intro | exact trivial | exact rfl | assumption
    · exfalso
      have k1 : u1.b = true ↔ cutX x = cutX y ∧ RollsEq (cutA a.p) (cutA a.o) := hu1 _ _ hx hy
      have k2 : u2.b = true ↔ enc (cutA a.p) (cutX x) = enc (cutA a.o) (cutX y) := hu2 _ _ hx3 hy3
      have k3 := enc_iff wx wy bx byy hx.p3.len hy.p3.len
      apply hne
      have : u1.b = true ↔ u2.b = true := k1.trans (Iff.trans ⟨fun h => k3.2 ⟨h.1, h.2.r0, h.2.r1, h.2.r2, h.2.r3, h.2.r4⟩, fun h => by
        obtain ⟨h0, h1, h2, h3, h4, h5⟩ := k3.1 h
        exact ⟨h0, h1, h2, h3, h4, h5⟩⟩ k2.symm)
      exact Bool.eq_iff_iff.2 this
    · repeat' first | with_reducible apply And.intro | exact trivial | exact rfl | assumption
    · repeat' first | with_reducible apply And.intro | exact trivial | exact rfl | assumption
  -- the clone
  obtain ⟨b⟩ := b2
  obtain ⟨hk, ho⟩ := hJ
  dsimp only at hk
  have ho : OwB b (enc (cutA a.p) (cutX x)) := ho
  have fb : FlatL b.c := ho.flat
  have lb : b.l ≤ b.k := ho.le
  have lb5 : b.l ≤ 100000 := by omega
  have lb6 : b.l ≤ 1000000 := by omega
  refine ⟨⟨trivial, ⟨_, hx⟩, by omega, by omega, by omega⟩, ?_, fun c hc => ?_, trivial⟩
  · repeat' first | with_reducible apply And.intro | exact trivial | exact rfl | assumption
  have hc := hc _ hx
  have c1 := hc.p1.flat
  have c2 := hc.p2.flat
  have c3 := hc.p3.flat
  refine ⟨⟨trivial, ⟨⟨_, hc⟩, _, hx⟩, ⟨by omega, by omega, by omega⟩, by omega, by omega, by omega⟩, ?_, fun u hu => ⟨fun _ x90 e90 => ⟨fun hl x91 e91 x92 e92 => ⟨fun _ x93 e93 x94 e94 x95 e95 => ?_, fun hne => absurd (e91.trans e92.symm) hne⟩, fun _ => ⟨⟨trivial, trivial⟩, ?_, fun _ _ => ⟨(), trivial, rfl, trivial⟩, trivial⟩⟩, fun hf => ?_⟩, trivial⟩
  · repeat' first | with_reducible apply And.intro | exact trivial | exact rfl | assumption
  rotate_left
  · repeat' first | with_reducible apply And.intro | exact trivial | exact rfl | assumption
  · have := (hu _ _ hc hx).2 ⟨rfl, rfl, rfl, rfl, rfl, rfl⟩
    exact absurd (this.symm.trans hf) (by decide)
  have h95 : x95 = ((min a.p.s1.l 70 : Nat) : Int) := by rw [wrap_u64] at e95; omega
  rw [wrap_u64] at e93
  refine ⟨by omega, fun x96 e96 x97 e97 => ?_⟩
  have h96 : x96 = x93 % x95 := by rw [e96]; exact Int.tmod_eq_emod_of_nonneg (by omega)
  have k96 : 0 ≤ x96 ∧ x96 < x95 := by rw [h96]; exact ⟨Int.emod_nonneg _ (by omega), Int.emod_lt_of_pos _ (by omega)⟩
  rw [wrap_sm (by omega)] at e97
  have hi : x97.toNat < (cutX x).vars.length := by omega
  refine ⟨⟨by omega, by omega⟩, fun x98 e98 => ⟨(cutX x).vars[x97.toNat], ?_, fun x100 e100 => ⟨⟨by omega, by omega⟩, fun x101 e101 => ⟨?_, fun x102 e102 => ?_⟩⟩⟩⟩
  · rw [show Nat.add x98 0 = 0 + x97.toNat by show x98 + 0 = _; omega]
    exact hc.p1.at_.get hi
  · have hnl : a.p.s1.n = false := by
      cases hh : a.p.s1.n with
      | false => rfl
      | true => have : min a.p.s1.l 70 = 0 := (hx.p1.nil hh).1; omega
    have hf : 0 + min a.p.s1.l 70 * 1 ≤ c.b1.c.length := hc.p1.fit hnl
    omega
  have h101 : x101 = x97.toNat := by omega
  subst h101
  have hs := Sli.put (z := x100) hc.p1 (show x97.toNat < min a.p.s1.l 70 by omega)
  rw [← e102] at hs
  have fs := hs.flat
  have hc2 : PH ⟨⟨a.p.s1.n, 0, min a.p.s1.l 70, c.b1.k, x102⟩, ⟨a.p.s2.n, 0, min a.p.s2.l 10, c.b2.k, c.b2.c⟩, ⟨a.p.s3.n, 0, min a.p.s3.l 10, c.b3.k, c.b3.c⟩, a.p.r0, a.p.r1, a.p.r2, a.p.r3, a.p.r4⟩ ⟨(cutX x).vars.set x97.toNat x100, (cutX x).gone, (cutX x).tips⟩ := ⟨hs, hc.p2, hc.p3⟩
  refine ⟨?_, ⟨trivial, trivial⟩, ?_, fun _ _ => ⟨⟨trivial, ⟨⟨_, hc2⟩, _, hx⟩, ⟨by omega, by omega, by omega⟩, by omega, by omega, by omega⟩, ?_, fun u2 hu2 => ⟨fun ht => ?_, fun _ => ?_⟩, trivial⟩, trivial⟩
  · repeat' first | with_reducible apply And.intro | exact trivial | exact rfl | assumption
  · repeat' first | with_reducible apply And.intro | exact trivial | exact rfl | assumption
  · repeat' first | with_reducible apply And.intro | exact trivial | exact rfl | assumption
  · exfalso
    have h1 := ((hu2 _ _ hc2 hx).1 ht).1
    have h2 : (cutX x).vars.set x97.toNat x100 = (cutX x).vars := congrArg PX.vars h1
    have h3 : ((cutX x).vars.set x97.toNat x100)[x97.toNat]? = (cutX x).vars[x97.toNat]? := by rw [h2]
    rw [List.getElem?_set_self hi, List.getElem?_eq_getElem hi] at h3
    have h4 : x100 = (cutX x).vars[x97.toNat] := Option.some.inj h3
    have h5 := wx.v _ (List.getElem_mem hi)
    exact wrap_ne h5 (e100.symm.trans h4)
  · refine ⟨⟨trivial, ⟨_, hx, wx, bx⟩, by omega, by omega, by omega⟩, ?_, fun d hd => ?_, trivial⟩
    · repeat' first | with_reducible apply And.intro | exact trivial | exact rfl | assumption
    obtain ⟨d1, hd⟩ := hd
    have hd : OwB d (enc (cutA a.p) (cutX x)) := hd _ hx
    have fd := hd.flat
    have ld := hd.le
    refine ⟨⟨trivial, ⟨_, _, hd.sli, ho.sli⟩, by omega, lb6⟩, ?_, fun _ _ => ⟨(), trivial, rfl, trivial⟩, fun _ hne => absurd rfl (hne _ _ hd.sli ho.sli), trivial⟩
    repeat' first | with_reducible apply And.intro | exact trivial | exact rfl | assumption
theorem s_codes : SpecOK Tryz.prog S_codes.spec := fun a K hp hq => by
  obtain ⟨⟨x, hx, wx, bx⟩, ⟨y, hy, wy, byy⟩, hn⟩ := hp
  exact specD_at (an := [some (joins [(3, j_c3 a x), (4, j_c4 a x), (5, j_c5 a x), (7, j_c7 a x)])]) envOK (cwD_ok t_cut (cwD_ok t_encP (cwD_ok s_decP (cwD_ok t_of (cwD_ok t_enc (cwD_ok s_decP2g (cwD_ok s_sameB (cwD_ok s_gof (cwD_ok s_hofB (cwD_ok t_same17 (cwD_ok s_gsame (cwD_ok t_clone (cwD_ok s_known cw0_ok))))))))))))) (fun _ => g_codes a x y hx wx bx hy wy byy hn) K ⟨⟨x, hx, wx, bx⟩, ⟨y, hy, wy, byy⟩, hn⟩ hq
end Go.Proofs.YtalbjjimnhldfaaGreatDoor
