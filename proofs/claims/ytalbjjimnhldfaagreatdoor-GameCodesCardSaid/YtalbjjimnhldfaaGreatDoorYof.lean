/- Positions as the document's; whether two are the same: what is told of Of and the document's Same (what is to be shown). -/
import Derived.Test.YtalbjjimnhldfaaGreatDoorYenc
section
set_option maxRecDepth 100000
namespace Go.Proofs.YtalbjjimnhldfaaGreatDoor
open Go.Ev
-- keep num foldI dnum encV encG encT enc1 enc2 enc3 enc Go.Ev.Sli PH PW
structure RN where
  n : Bool
  k : Nat
  c : List Value
structure OL where
  i : Int
  n : Bool
  l : Nat
  k : Nat
  c : List Value
structure P2 where
  a : PA
  b : PA
noncomputable section
def S_of : SpecD where
  f := 30
  α := PA
  args a := [a.v 12]
  R a := a.R 12 29
  n := 12 + 3
  pre a := (∃ x, PH a x) ∧ a.s3.l ≤ 100
  outs := [⟨RN, fun a b => ∀ xs, Sli (Value.int .u8) 8 a.s3.n a.s3.o a.s3.l a.s3.k a.s3.c xs → Sli (Value.int .u8) 8 b.n 0 a.s3.l b.k b.c xs, fun a b => .agg ⟨a.s1.v 12 :: a.s2.v (12 + 1) :: mnS (12 + 3) b.n 0 a.s3.l b.k :: rolls a⟩, fun _ b => [(12 + 3, .f b.c 28 (.grown b.k))], fun _ _ => 12 + 4, fun v _ => renS (12 + 3) (lv (agv v) 2)⟩]
  pick _ _ := 0
  find l A := some (paOf A (agv (lv l 0)), paN 12 (agv (lv l 0)))
abbrev zeroP : List Value := [.slice none 0 0, .slice none 0 0, .slice none 0 0, .int .i64 0, .int .i64 0, .int .i64 0, .int .i64 0, .int .u64 0]
def ptrB (v : Value) : Nat := match v with
  | .pointer (some ⟨b, _, _⟩) => b
  | _ => 0
def la_of (a : PA) (xs : List Int) : LA where
  α := OL
  at_ e := ⟨[(1, .pointer (some ⟨12 + 3, 0, none⟩)), (2, .pointer (some ⟨12 + 4, 0, none⟩)), (3, .pointer (some ⟨12 + 5, 0, none⟩)), (4, tgI .i64 e.i)],
    (12 + 3, .p (.row (a.s1.v 12 :: a.s2.v (12 + 1) :: a.s3.v (12 + 2) :: rolls a) 37 .own)) :: (12 + 4, .p (.row zeroP 66 .own)) ::
    (12 + 5, .p (.row (a.s1.v 12 :: a.s2.v (12 + 1) :: mnS (12 + 6) e.n 0 e.l e.k :: rolls a) 66 .own)) :: (12 + 6, .f e.c 28 (.grown e.k)) :: a.R 12 29, 12 + 7⟩
  J e := (0 ≤ e.i ∧ e.i ≤ a.s3.l) ∧ (e.l = e.i.toNat ∧ Sli (Value.int .u8) 8 e.n 0 e.l e.k e.c (xs.take (8 * e.i.toNat)) ∧ (e.n = false → e.c.length = e.l * 8))
  μ e := (a.s3.l - e.i).toNat
  ren s := renP (12 + 3) (tv s 1) ++ (renP (12 + 4) (tv s 2) ++ (renP (12 + 5) (tv s 3) ++ renS (12 + 6) (lv (rowO s.A (ptrB (tv s 3))) 2)))
def G_of (a : PA) (xs : List Int) : Prop := fnW Tryz.prog E0 cw0 [some (la_of a xs)] S_of.f (S_of.args a) (mem (S_of.R a) S_of.n) (endD Tryz.prog S_of a)
def S_same17 : SpecD where
  f := 33
  α := P2
  args a := [a.a.v 12, a.b.v (12 + 3)]
  R a := a.a.R 12 28 ++ a.b.R (12 + 3) 28
  n := 12 + 6
  pre a := ((∃ x, PH a.a x ∧ PW a.a x) ∧ ∃ x, PH a.b x ∧ PW a.b x) ∧ ((a.a.s1.l ≤ 70 ∧ a.a.s2.l ≤ 10 ∧ a.a.s3.l ≤ 10) ∧ (a.b.s1.l ≤ 70 ∧ a.b.s2.l ≤ 10 ∧ a.b.s3.l ≤ 10))
  outs := [⟨BL, fun a b => ∀ x y, PH a.a x → PH a.b y → (b.b = true ↔ enc a.a x = enc a.b y), fun _ b => tg (.bool b.b), fun _ _ => [], fun _ _ => 12 + 6, fun _ _ => []⟩]
  pick _ _ := 0
  find l A := some (⟨paOf A (agv (lv l 0)), paOf A (agv (lv l 1))⟩, paN 12 (agv (lv l 0)) ++ paN (12 + 3) (agv (lv l 1)))
def G_same17 (a : P2) : Prop := fnW Tryz.prog E0 (cwD Tryz.prog S_enc (cwD Tryz.prog S_same cw0)) [] S_same17.f (S_same17.args a) (mem (S_same17.R a) S_same17.n) (endD Tryz.prog S_same17 a)
end
end Go.Proofs.YtalbjjimnhldfaaGreatDoor
end

/- What is told of Of and the document's Same is so. -/
set_option maxRecDepth 100000
namespace Go.Proofs.YtalbjjimnhldfaaGreatDoor
open Go.Ev
noncomputable section
def W_G_of_0 : PA → OL → Option AO := fun (a : PA) (x1 : OL) => Option.some (AO.row [Value.iface (1000000009 : Nat) (Value.agg (Array.mk [Value.bool a.1.1, Value.slice (Option.some (Addr.mk (12 : Nat) a.1.2
Option.none)) a.1.3 a.1.4])), Value.iface (1000000009 : Nat) (Value.agg (Array.mk [Value.bool a.2.1, Value.slice (Option.some (Addr.mk (13 : Nat) a.2.2 Option.none)) a.2.3
a.2.4])), Value.iface (1000000009 : Nat) (Value.agg (Array.mk [Value.bool x1.2, Value.slice (Option.some (Addr.mk (18 : Nat) (0 : Nat) Option.none)) x1.3 x1.4])), Value.iface
(1000000007 : Nat) (Value.int IntKind.i64 a.4), Value.iface (1000000007 : Nat) (Value.int IntKind.i64 a.5), Value.iface (1000000007 : Nat) (Value.int IntKind.i64 a.6), Value.iface
(1000000007 : Nat) (Value.int IntKind.i64 a.7), Value.iface (1000000007 : Nat) (Value.int IntKind.u64 a.8)] (66 : Nat) Md.own)
def W_G_same17_0 : P2 → Option AO := fun (a : P2) => Option.some (AO.row (Array.toList (Array.mk [Value.iface (1000000009 : Nat) (Value.agg (Array.mk [Value.bool a.2.1.1, Value.slice (Option.some (Addr.mk (15 : Nat)
a.2.1.2 Option.none)) a.2.1.3 a.2.1.4])), Value.iface (1000000009 : Nat) (Value.agg (Array.mk [Value.bool a.2.2.1, Value.slice (Option.some (Addr.mk (16 : Nat) a.2.2.2
Option.none)) a.2.2.3 a.2.2.4])), Value.iface (1000000009 : Nat) (Value.agg (Array.mk [Value.bool a.2.3.1, Value.slice (Option.some (Addr.mk (17 : Nat) a.2.3.2 Option.none))
a.2.3.3 a.2.3.4])), Value.iface (1000000007 : Nat) (Value.int IntKind.i64 a.2.4), Value.iface (1000000007 : Nat) (Value.int IntKind.i64 a.2.5), Value.iface (1000000007 : Nat)
(Value.int IntKind.i64 a.2.6), Value.iface (1000000007 : Nat) (Value.int IntKind.i64 a.2.7), Value.iface (1000000007 : Nat) (Value.int IntKind.u64 a.2.8)])) (66 : Nat) Md.own)
end
set_option maxHeartbeats 3200000 in
theorem vc_of (a : PA) (xs : List Int) : G_of a xs = (∃ (x0 : OL), ((0 ≤ x0.1 ∧ x0.1 ≤ (↑a.3.3 : Int)) ∧ x0.3 = Int.toNat x0.1 ∧ Sli (Value.int IntKind.u8) 8 x0.2 0 x0.3 x0.4 x0.5 (List.take (8 * Int.toNat x0.1) xs) ∧ (x0.2 = false →
List.length x0.5 = x0.3 * 8)) ∧ ((0 = 0 ∧ 0 = 0 ∧ 0 = 0 ∧ x0.1 = 0 ∧ True) ∧ ((True ∧ Z4 a.1 ∧ Z4 a.2 ∧ Z4 a.3 ∧ ZR a) ∧ (True ∧ (0 = 0 ∧ 0 = 0) ∧ (0 = 0 ∧ 0 = 0) ∧ (0 = 0 ∧ 0 = 0)
∧ (0 : Int) = 0 ∧ (0 : Int) = 0 ∧ (0 : Int) = 0 ∧ (0 : Int) = 0 ∧ (0 : Int) = 0 ∧ True) ∧ (True ∧ Z4 a.1 ∧ Z4 a.2 ∧ (x0.2 = true ∧ x0.3 = 0 ∧ x0.4 = 0) ∧ ZR a) ∧ (FlatL x0.5 ∧
True) ∧ ZF a.1.5 ∧ ZF a.2.5 ∧ ZF a.3.5 ∧ True) ∧ True) ∧ ∀ (x1 : OL), (0 ≤ x1.1 ∧ x1.1 ≤ (↑a.3.3 : Int)) ∧ x1.3 = Int.toNat x1.1 ∧ Sli (Value.int IntKind.u8) 8 x1.2 0 x1.3 x1.4
x1.5 (List.take (8 * Int.toNat x1.1) xs) ∧ (x1.2 = false → List.length x1.5 = x1.3 * 8) → ∀ (x2 : Int), x2 = (↑a.3.3 : Int) → (x1.1 < x2 → (0 ≤ x1.1 ∧ x1.1 < (↑a.3.3 : Int)) ∧ ∀
(x3 : Nat), x3 = a.3.2 + Int.toNat x1.1 * 8 → ∃ (x4 : Int), Rd a.3.5 (Nat.add x3 0) (Value.int IntKind.u8 x4) ∧ ∃ (x5 : Int), Rd a.3.5 (Nat.add x3 1) (Value.int IntKind.u8 x5) ∧ ∃
(x6 : Int), Rd a.3.5 (Nat.add x3 2) (Value.int IntKind.u8 x6) ∧ ∃ (x7 : Int), Rd a.3.5 (Nat.add x3 3) (Value.int IntKind.u8 x7) ∧ ∃ (x8 : Int), Rd a.3.5 (Nat.add x3 4) (Value.int
IntKind.u8 x8) ∧ ∃ (x9 : Int), Rd a.3.5 (Nat.add x3 5) (Value.int IntKind.u8 x9) ∧ ∃ (x10 : Int), Rd a.3.5 (Nat.add x3 6) (Value.int IntKind.u8 x10) ∧ ∃ (x11 : Int), Rd a.3.5
(Nat.add x3 7) (Value.int IntKind.u8 x11) ∧ (x1.2 = true → 8 ≤ List.length [Value.iface 1000000007 (Value.int IntKind.u8 x4), Value.iface 1000000007 (Value.int IntKind.u8 x5),
Value.iface 1000000007 (Value.int IntKind.u8 x6), Value.iface 1000000007 (Value.int IntKind.u8 x7), Value.iface 1000000007 (Value.int IntKind.u8 x8), Value.iface 1000000007
(Value.int IntKind.u8 x9), Value.iface 1000000007 (Value.int IntKind.u8 x10), Value.iface 1000000007 (Value.int IntKind.u8 x11)] ∧ ∀ (x12 : List Value), x12 = lwin [Value.iface
1000000007 (Value.int IntKind.u8 x4), Value.iface 1000000007 (Value.int IntKind.u8 x5), Value.iface 1000000007 (Value.int IntKind.u8 x6), Value.iface 1000000007 (Value.int
IntKind.u8 x7), Value.iface 1000000007 (Value.int IntKind.u8 x8), Value.iface 1000000007 (Value.int IntKind.u8 x9), Value.iface 1000000007 (Value.int IntKind.u8 x10), Value.iface
1000000007 (Value.int IntKind.u8 x11)] 0 8 → (1 = 0 → ((True ∧ True) ∧ (W_G_of_0 a x1 = W_G_of_0 a x1 ∧ True) ∧ True ∧ True ∧ True ∧ True ∧ True ∧ True ∧ True ∧ True ∧ True ∧ True)
∧ ∀ x13, x13 = IntKind.wrap .i64 (x1.1 + (1 : Int)) → ∃ (x14 : OL), ((0 ≤ x14.1 ∧ x14.1 ≤ (↑a.3.3 : Int)) ∧ x14.3 = Int.toNat x14.1 ∧ Sli (Value.int IntKind.u8) 8 x14.2 0 x14.3
x14.4 x14.5 (List.take (8 * Int.toNat x14.1) xs) ∧ (x14.2 = false → List.length x14.5 = x14.3 * 8)) ∧ Int.toNat ((↑a.3.3 : Int) - x14.1) < Int.toNat ((↑a.3.3 : Int) - x1.1) ∧ (0 =
0 ∧ 0 = 0 ∧ 0 = 0 ∧ x14.1 = x13 ∧ True) ∧ ((True ∧ Z4 a.1 ∧ Z4 a.2 ∧ Z4 a.3 ∧ ZR a) ∧ (True ∧ (0 = 0 ∧ 0 = 0) ∧ (0 = 0 ∧ 0 = 0) ∧ (0 = 0 ∧ 0 = 0) ∧ (0 : Int) = 0 ∧ (0 : Int) = 0 ∧
(0 : Int) = 0 ∧ (0 : Int) = 0 ∧ (0 : Int) = 0 ∧ True) ∧ (True ∧ Z4 a.1 ∧ Z4 a.2 ∧ (x14.2 = true ∧ x14.3 = 0 ∧ x14.4 = 0) ∧ ZR a) ∧ (FlatL x14.5 ∧ True) ∧ ZF a.1.5 ∧ ZF a.2.5 ∧ ZF
a.3.5 ∧ True) ∧ True) ∧ (1 ≠ 0 → Few 1 8 ∧ ((True ∧ True) ∧ (W_G_of_0 a x1 = W_G_of_0 a x1 ∧ True) ∧ True ∧ True ∧ True ∧ True ∧ True ∧ True ∧ True ∧ True ∧ True ∧ True) ∧ ∀ x15,
x15 = IntKind.wrap .i64 (x1.1 + (1 : Int)) → ∃ (x16 : OL), ((0 ≤ x16.1 ∧ x16.1 ≤ (↑a.3.3 : Int)) ∧ x16.3 = Int.toNat x16.1 ∧ Sli (Value.int IntKind.u8) 8 x16.2 0 x16.3 x16.4 x16.5
(List.take (8 * Int.toNat x16.1) xs) ∧ (x16.2 = false → List.length x16.5 = x16.3 * 8)) ∧ Int.toNat ((↑a.3.3 : Int) - x16.1) < Int.toNat ((↑a.3.3 : Int) - x1.1) ∧ (0 = 0 ∧ 0 = 0 ∧
0 = 0 ∧ x16.1 = x15 ∧ True) ∧ ((True ∧ Z4 a.1 ∧ Z4 a.2 ∧ Z4 a.3 ∧ ZR a) ∧ (True ∧ (0 = 0 ∧ 0 = 0) ∧ (0 = 0 ∧ 0 = 0) ∧ (0 = 0 ∧ 0 = 0) ∧ (0 : Int) = 0 ∧ (0 : Int) = 0 ∧ (0 : Int) =
0 ∧ (0 : Int) = 0 ∧ (0 : Int) = 0 ∧ True) ∧ (True ∧ Z4 a.1 ∧ Z4 a.2 ∧ (x16.2 = false ∧ 0 = 0 ∧ x16.3 = 1 ∧ x16.4 = 1) ∧ ZR a) ∧ (x16.4 = 1 ∧ FlatL x16.5 ∧ x16.5 = x12) ∧ ZF a.1.5 ∧
ZF a.2.5 ∧ ZF a.3.5 ∧ True) ∧ True)) ∧ (x1.2 = false → 8 ≤ List.length [Value.iface 1000000007 (Value.int IntKind.u8 x4), Value.iface 1000000007 (Value.int IntKind.u8 x5),
Value.iface 1000000007 (Value.int IntKind.u8 x6), Value.iface 1000000007 (Value.int IntKind.u8 x7), Value.iface 1000000007 (Value.int IntKind.u8 x8), Value.iface 1000000007
(Value.int IntKind.u8 x9), Value.iface 1000000007 (Value.int IntKind.u8 x10), Value.iface 1000000007 (Value.int IntKind.u8 x11)] ∧ ∀ (x17 : List Value), x17 = lwin [Value.iface
1000000007 (Value.int IntKind.u8 x4), Value.iface 1000000007 (Value.int IntKind.u8 x5), Value.iface 1000000007 (Value.int IntKind.u8 x6), Value.iface 1000000007 (Value.int
IntKind.u8 x7), Value.iface 1000000007 (Value.int IntKind.u8 x8), Value.iface 1000000007 (Value.int IntKind.u8 x9), Value.iface 1000000007 (Value.int IntKind.u8 x10), Value.iface
1000000007 (Value.int IntKind.u8 x11)] 0 8 → (0 = 0 ∧ List.length x1.5 = x1.3 * 8 ∧ x1.4 = x1.4 ∧ x1.3 ≤ x1.4 ∧ Few (x1.3 + 1) 8 ∧ lall oneK x17 = true) ∧ ∀ (x18 x19 : Nat), x18 =
x1.3 + 1 → (x19 = if x18 ≤ OL.k x1 then x1.4 else x18) → ((True ∧ True) ∧ (W_G_of_0 a x1 = W_G_of_0 a x1 ∧ True) ∧ True ∧ True ∧ True ∧ True ∧ True ∧ True ∧ True ∧ True ∧ True ∧
True) ∧ ∀ x20, x20 = IntKind.wrap .i64 (x1.1 + (1 : Int)) → ∃ (x21 : OL), ((0 ≤ x21.1 ∧ x21.1 ≤ (↑a.3.3 : Int)) ∧ x21.3 = Int.toNat x21.1 ∧ Sli (Value.int IntKind.u8) 8 x21.2 0
x21.3 x21.4 x21.5 (List.take (8 * Int.toNat x21.1) xs) ∧ (x21.2 = false → List.length x21.5 = x21.3 * 8)) ∧ Int.toNat ((↑a.3.3 : Int) - x21.1) < Int.toNat ((↑a.3.3 : Int) - x1.1) ∧
(0 = 0 ∧ 0 = 0 ∧ 0 = 0 ∧ x21.1 = x20 ∧ True) ∧ ((True ∧ Z4 a.1 ∧ Z4 a.2 ∧ Z4 a.3 ∧ ZR a) ∧ (True ∧ (0 = 0 ∧ 0 = 0) ∧ (0 = 0 ∧ 0 = 0) ∧ (0 = 0 ∧ 0 = 0) ∧ (0 : Int) = 0 ∧ (0 : Int) =
0 ∧ (0 : Int) = 0 ∧ (0 : Int) = 0 ∧ (0 : Int) = 0 ∧ True) ∧ (True ∧ Z4 a.1 ∧ Z4 a.2 ∧ (x21.2 = false ∧ 0 = 0 ∧ x21.3 = x18 ∧ x21.4 = x19) ∧ ZR a) ∧ (x21.4 = x19 ∧ FlatL x21.5 ∧
x21.5 = x1.5 ++ x17) ∧ ZF a.1.5 ∧ ZF a.2.5 ∧ ZF a.3.5 ∧ True) ∧ True)) ∧ (¬x1.1 < x2 → ∃ (x22 : RN), (∀ (x23 : List Int), Sli (Value.int IntKind.u8) 8 a.3.1 a.3.2 a.3.3 a.3.4 a.3.5
x23 → Sli (Value.int IntKind.u8) 8 x22.1 0 a.3.3 x22.2 x22.3 x23) ∧ (Z4 a.1 ∧ Z4 a.2 ∧ (x22.1 = x1.2 ∧ 0 = 0 ∧ a.3.3 = x1.3 ∧ x22.2 = x1.4) ∧ ZR a) ∧ (x22.2 = x1.4 ∧ FlatL x22.3 ∧
x22.3 = x1.5) ∧ True)) := by kernel_rfl
theorem vc_same17 (a : P2) : G_same17 a = ((True ∧ (∃ (x0 : PX), PH (PA.mk (SA.mk a.1.1.1 a.1.1.2 a.1.1.3 a.1.1.4 a.1.1.5) (SA.mk a.1.2.1 a.1.2.2 a.1.2.3 a.1.2.4 a.1.2.5) (SA.mk a.1.3.1 a.1.3.2 a.1.3.3 a.1.3.4 a.1.3.5)
a.1.4 a.1.5 a.1.6 a.1.7 a.1.8) x0 ∧ PW (PA.mk (SA.mk a.1.1.1 a.1.1.2 a.1.1.3 a.1.1.4 a.1.1.5) (SA.mk a.1.2.1 a.1.2.2 a.1.2.3 a.1.2.4 a.1.2.5) (SA.mk a.1.3.1 a.1.3.2 a.1.3.3 a.1.3.4
a.1.3.5) a.1.4 a.1.5 a.1.6 a.1.7 a.1.8) x0) ∧ a.1.1.3 ≤ 70 ∧ a.1.2.3 ≤ 10 ∧ a.1.3.3 ≤ 10) ∧ (((Z4 a.1.1 ∧ Z4 a.1.2 ∧ Z4 a.1.3 ∧ ZR a.1) ∧ True) ∧ ZF a.1.1.5 ∧ ZF a.1.2.5 ∧ ZF
a.1.3.5 ∧ True) ∧ (∀ (x1 : RW), (∀ (x2 : PX), PH (PA.mk (SA.mk a.1.1.1 a.1.1.2 a.1.1.3 a.1.1.4 a.1.1.5) (SA.mk a.1.2.1 a.1.2.2 a.1.2.3 a.1.2.4 a.1.2.5) (SA.mk a.1.3.1 a.1.3.2
a.1.3.3 a.1.3.4 a.1.3.5) a.1.4 a.1.5 a.1.6 a.1.7 a.1.8) x2 → HE IntKind.u8 x1.2 (enc (PA.mk (SA.mk a.1.1.1 a.1.1.2 a.1.1.3 a.1.1.4 a.1.1.5) (SA.mk a.1.2.1 a.1.2.2 a.1.2.3 a.1.2.4
a.1.2.5) (SA.mk a.1.3.1 a.1.3.2 a.1.3.3 a.1.3.4 a.1.3.5) a.1.4 a.1.5 a.1.6 a.1.7 a.1.8) x2) ∧ List.length x1.2 ≤ x1.1 ∧ List.length x1.2 ≤ 2000) → (True ∧ (∃ (x3 : PX), PH (PA.mk
(SA.mk a.2.1.1 a.2.1.2 a.2.1.3 a.2.1.4 a.2.1.5) (SA.mk a.2.2.1 a.2.2.2 a.2.2.3 a.2.2.4 a.2.2.5) (SA.mk a.2.3.1 a.2.3.2 a.2.3.3 a.2.3.4 a.2.3.5) a.2.4 a.2.5 a.2.6 a.2.7 a.2.8) x3 ∧
PW (PA.mk (SA.mk a.2.1.1 a.2.1.2 a.2.1.3 a.2.1.4 a.2.1.5) (SA.mk a.2.2.1 a.2.2.2 a.2.2.3 a.2.2.4 a.2.2.5) (SA.mk a.2.3.1 a.2.3.2 a.2.3.3 a.2.3.4 a.2.3.5) a.2.4 a.2.5 a.2.6 a.2.7
a.2.8) x3) ∧ a.2.1.3 ≤ 70 ∧ a.2.2.3 ≤ 10 ∧ a.2.3.3 ≤ 10) ∧ (((Z4 a.2.1 ∧ Z4 a.2.2 ∧ Z4 a.2.3 ∧ ZR a.2) ∧ True) ∧ ZF a.2.1.5 ∧ ZF a.2.2.5 ∧ ZF a.2.3.5 ∧ True) ∧ (∀ (x4 : RW), (∀ (x5
: PX), PH (PA.mk (SA.mk a.2.1.1 a.2.1.2 a.2.1.3 a.2.1.4 a.2.1.5) (SA.mk a.2.2.1 a.2.2.2 a.2.2.3 a.2.2.4 a.2.2.5) (SA.mk a.2.3.1 a.2.3.2 a.2.3.3 a.2.3.4 a.2.3.5) a.2.4 a.2.5 a.2.6
a.2.7 a.2.8) x5 → HE IntKind.u8 x4.2 (enc (PA.mk (SA.mk a.2.1.1 a.2.1.2 a.2.1.3 a.2.1.4 a.2.1.5) (SA.mk a.2.2.1 a.2.2.2 a.2.2.3 a.2.2.4 a.2.2.5) (SA.mk a.2.3.1 a.2.3.2 a.2.3.3
a.2.3.4 a.2.3.5) a.2.4 a.2.5 a.2.6 a.2.7 a.2.8) x5) ∧ List.length x4.2 ≤ x4.1 ∧ List.length x4.2 ≤ 2000) → (True ∧ (∃ (x6 : List Int), ∃ (x7 : List Int), SB false (nat_lit 0)
(List.length x1.2) x1.1 x1.2 x6 ∧ SB false (nat_lit 0) (List.length x4.2) x4.1 x4.2 x7) ∧ List.length x1.2 ≤ 1000000 ∧ List.length x4.2 ≤ 1000000) ∧ (((false = false ∧ nat_lit 0 =
0 ∧ List.length x1.2 = List.length x1.2 ∧ x1.1 = x1.1) ∧ (false = false ∧ nat_lit 0 = 0 ∧ List.length x4.2 = List.length x4.2 ∧ x4.1 = x4.1) ∧ True) ∧ ZF x1.2 ∧ ZF x4.2 ∧ True) ∧
(∀ (x8 : BL), (∀ (x9 x10 : List Int), SB false (nat_lit 0) (List.length x1.2) x1.1 x1.2 x9 → SB false (nat_lit 0) (List.length x4.2) x4.1 x4.2 x10 → (x8.1 = true ↔ x9 = x10)) →
(True ∧ True ∧ (W_G_same17_0 a = W_G_same17_0 a ∧ True) ∧ True ∧ True ∧ True ∧ True) ∧ ∃ (x11 : BL), (∀ (x12 x13 : PX), PH a.1 x12 → PH a.2 x13 → (x11.1 = true ↔ enc a.1 x12 = enc
a.2 x13)) ∧ x11.1 = x8.1 ∧ True) ∧ True) ∧ True) ∧ True) := by kernel_rfl
theorem he8 (x0 x1 x2 x3 x4 x5 x6 x7 : Int) : HE .u8 [tgI .u8 x0, tgI .u8 x1, tgI .u8 x2, tgI .u8 x3, tgI .u8 x4, tgI .u8 x5, tgI .u8 x6, tgI .u8 x7] [x0, x1, x2, x3, x4, x5, x6, x7] :=
  HW.one.append (HW.one.append (HW.one.append (HW.one.append (HW.one.append (HW.one.append (HW.one.append HW.one))))))
theorem take8 {xs : List Int} {k : Nat} (rd : ∀ j, j < 8 → 8 * k + j < xs.length) : xs.take (8 * (k + 1)) = xs.take (8 * k) ++ [xs[8 * k + 0]'(rd 0 (by omega)), xs[8 * k + 1]'(rd 1 (by omega)), xs[8 * k + 2]'(rd 2 (by omega)), xs[8 * k + 3]'(rd 3 (by omega)), xs[8 * k + 4]'(rd 4 (by omega)), xs[8 * k + 5]'(rd 5 (by omega)), xs[8 * k + 6]'(rd 6 (by omega)), xs[8 * k + 7]'(rd 7 (by omega))] := by
  have st : ∀ j (hj : j < 8), xs.take (8 * k + (j + 1)) = xs.take (8 * k + j) ++ [xs[8 * k + j]'(rd j hj)] := fun j hj => by
    rw [← Nat.add_assoc, List.take_add_one, List.getElem?_eq_getElem (rd j hj)]; rfl
  rw [show 8 * (k + 1) = 8 * k + (7 + 1) by omega, st 7 (by omega), st 6 (by omega), st 5 (by omega), st 4 (by omega), st 3 (by omega), st 2 (by omega), st 1 (by omega), st 0 (by omega)]
  simp only [List.append_assoc, List.cons_append, List.nil_append, Nat.add_zero]
theorem g_of (a : PA) (xs : List Int) (hp : ∃ x, PH a x) (hx : Sli (Value.int .u8) 8 a.s3.n a.s3.o a.s3.l a.s3.k a.s3.c xs) (b3 : a.s3.l ≤ 100) : G_of a xs := by
  obtain ⟨x, hxx⟩ := hp
  have f1 := hxx.p1.flat
  have f2 := hxx.p2.flat
  have f3 := hxx.p3.flat
  have lx := hx.len
  rw [vc_of]
  refine ⟨⟨0, true, 0, 0, []⟩, ⟨⟨by show (0 : Int) ≤ 0; decide, by show (0 : Int) ≤ _; omega⟩, rfl, by show Sli _ 8 true 0 0 0 [] (List.take 0 xs); exact .none, fun h => nomatch h⟩, ?_, ?_⟩
  · have q0 := flatL_nil
    repeat' first | with_reducible apply And.intro | exact trivial | exact rfl | assumption
  rintro ⟨i, nb, l, k, c⟩ ⟨⟨hi0, hi1⟩, hl, hs, hc⟩ z2 e2
  dsimp only at hi0 hi1 hl hs hc ⊢
  refine ⟨fun hlt => ?_, fun hge => ?_⟩
  · have rd : ∀ j, j < 8 → 8 * i.toNat + j < xs.length := fun j hj => by omega
    have ac : ∀ (p j : Nat) (hj : j < 8), p = a.s3.o + i.toNat * 8 → Rd a.s3.c (Nat.add p j) (.int .u8 (xs[8 * i.toNat + j]'(rd j hj))) := fun p j hj hp => by
      have := hx.at_.get (rd j hj)
      rw [show a.s3.o + (8 * i.toNat + j) = Nat.add p j by rw [hp]; show _ = a.s3.o + i.toNat * 8 + j; omega] at this
      exact this
    refine ⟨⟨hi0, by omega⟩, fun p hp => ⟨_, ac p 0 (by omega) hp, _, ac p 1 (by omega) hp, _, ac p 2 (by omega) hp, _, ac p 3 (by omega) hp, _, ac p 4 (by omega) hp, _, ac p 5 (by omega) hp, _, ac p 6 (by omega) hp, _, ac p 7 (by omega) hp, ?_, ?_⟩⟩
    · intro hn
      subst hn
      have hl0 := (hs.nil rfl).1
      have hi : i.toNat = 0 := by omega
      refine ⟨by simp, fun ys hys => ⟨fun h => by omega, fun _ => ⟨by unfold Few; omega, ?_, fun z hz => ?_⟩⟩⟩
      · repeat' first | with_reducible apply And.intro | exact trivial | exact rfl | assumption
      rw [wrap_i64] at hz
      have ez : z.toNat = i.toNat + 1 := by omega
      have hw : HE .u8 ys (xs.take (8 * z.toNat)) := by
        rw [ez, take8 rd, hys]
        have e0 : xs.take (8 * i.toNat) = [] := by rw [hi]; rfl
        rw [e0]
        exact he8 _ _ _ _ _ _ _ _
      have hlen : (xs.take (8 * z.toNat)).length = 1 * 8 := by rw [List.length_take]; omega
      have q0 := hw.flat
      refine ⟨⟨z, false, 1, 1, ys⟩, ⟨⟨by show 0 ≤ z; omega, by show z ≤ _; omega⟩, by show 1 = z.toNat; omega, .row hw hlen (Nat.le_refl _) hw.flat, fun _ => by show ys.length = 1 * 8; rw [hw.len, hlen]⟩, by show ((a.s3.l : Int) - z).toNat < ((a.s3.l : Int) - i).toNat; omega, ?_, ?_⟩
      all_goals repeat' first | with_reducible apply And.intro | exact trivial | exact rfl | assumption
    · intro hn
      subst hn
      have hcl := hc rfl
      have hsl := hs.len
      have hcw : HE .u8 c (xs.take (8 * i.toNat)) := ⟨hcl.trans hsl.symm, hs.at_⟩
      have hcap := hs.cap
      refine ⟨by simp, fun ys hys => ⟨⟨rfl, hcl, rfl, hcap, by unfold Few; omega, ?_⟩, fun n k' hn' hk' => ⟨?_, fun z hz => ?_⟩⟩⟩
      · rw [hys]; exact (he8 _ _ _ _ _ _ _ _).oneK
      · repeat' first | with_reducible apply And.intro | exact trivial | exact rfl | assumption
      rw [wrap_i64] at hz
      have ez : z.toNat = i.toNat + 1 := by omega
      have hw : HE .u8 (c ++ ys) (xs.take (8 * z.toNat)) := by
        rw [ez, take8 rd, hys]
        exact hcw.append (he8 _ _ _ _ _ _ _ _)
      have hlen : (xs.take (8 * z.toNat)).length = n * 8 := by rw [List.length_take]; omega
      have q0 := hw.flat
      refine ⟨⟨z, false, n, k', c ++ ys⟩, ⟨⟨by show 0 ≤ z; omega, by show z ≤ _; omega⟩, by show n = z.toNat; omega, Sli.row hw hlen (show n ≤ k' by (rw [hk']; split <;> omega)) hw.flat, fun _ => by show (c ++ ys).length = n * 8; rw [hw.len, hlen]⟩, by show ((a.s3.l : Int) - z).toNat < ((a.s3.l : Int) - i).toNat; omega, ?_, ?_⟩
      all_goals repeat' first | with_reducible apply And.intro | exact trivial | exact rfl | assumption
  · have hi : i.toNat = a.s3.l := by omega
    have hle : a.s3.l = l := by omega
    have q0 := hs.flat
    rw [List.take_of_length_le (by omega)] at hs
    refine ⟨⟨nb, k, c⟩, fun ys hy => ?_, ?_, ?_⟩
    · obtain rfl := Sli.uniqI hx hy
      rw [hle]; exact hs
    all_goals repeat' first | with_reducible apply And.intro | exact trivial | exact rfl | assumption
theorem s_of : SpecOK Tryz.prog S_of.spec := fun a K hp hq => by
  obtain ⟨⟨x, hx⟩, b3⟩ := hp
  exact specD_at (an := [some (la_of a x.tips)]) envOK cw0_ok (fun _ => g_of a x.tips ⟨x, hx⟩ hx.p3 b3) K ⟨⟨x, hx⟩, b3⟩ hq
theorem g_same17 (a : P2) (h1 : ∃ x, PH a.a x ∧ PW a.a x) (h2 : ∃ x, PH a.b x ∧ PW a.b x) (b1 : a.a.s1.l ≤ 70 ∧ a.a.s2.l ≤ 10 ∧ a.a.s3.l ≤ 10) (b2 : a.b.s1.l ≤ 70 ∧ a.b.s2.l ≤ 10 ∧ a.b.s3.l ≤ 10) : G_same17 a := by
  obtain ⟨x, hx, wx⟩ := h1
  obtain ⟨y, hy, wy⟩ := h2
  have f1 := hx.p1.flat
  have f2 := hx.p2.flat
  have f3 := hx.p3.flat
  have f4 := hy.p1.flat
  have f5 := hy.p2.flat
  have f6 := hy.p3.flat
  rw [vc_same17]
  refine ⟨⟨trivial, ⟨x, hx, wx⟩, b1⟩, ?_, fun r hr => ⟨⟨trivial, ⟨y, hy, wy⟩, b2⟩, ?_, fun s hs => ?_, trivial⟩, trivial⟩
  · repeat' first | with_reducible apply And.intro | exact trivial | exact rfl | assumption
  · repeat' first | with_reducible apply And.intro | exact trivial | exact rfl | assumption
  obtain ⟨r1, r2, r3⟩ : HE .u8 r.c (enc a.a x) ∧ r.c.length ≤ r.k ∧ r.c.length ≤ 2000 := hr x hx
  obtain ⟨s1, s2, s3⟩ : HE .u8 s.c (enc a.b y) ∧ s.c.length ≤ s.k ∧ s.c.length ≤ 2000 := hs y hy
  have q1 := r1.flat
  have q2 := s1.flat
  have lr : Sli (Value.int .u8) 1 false 0 r.c.length r.k r.c (enc a.a x) := .row r1 (by rw [r1.len]; omega) r2 q1
  have ls : Sli (Value.int .u8) 1 false 0 s.c.length s.k s.c (enc a.b y) := .row s1 (by rw [s1.len]; omega) s2 q2
  refine ⟨⟨trivial, ⟨_, _, lr, ls⟩, by omega, by omega⟩, ?_, fun t ht => ⟨?_, t, fun u v hu hv => ?_, rfl, trivial⟩, trivial⟩
  · repeat' first | with_reducible apply And.intro | exact trivial | exact rfl | assumption
  · repeat' first | with_reducible apply And.intro | exact trivial | exact rfl | assumption
  · obtain rfl := hx.uniq hu
    obtain rfl := hy.uniq hv
    exact ht _ _ lr ls
theorem s_same17 : SpecOK Tryz.prog S_same17.spec := fun a => specD_at (an := []) envOK (cwD_ok s_enc (cwD_ok s_same cw0_ok)) fun hp => g_same17 a hp.1.1 hp.1.2 hp.2.1 hp.2.2
end Go.Proofs.YtalbjjimnhldfaaGreatDoor
