/- The document's bytes of a position: what is told of Encode and Same (what is to be shown). -/
import Derived.Test.YtalbjjimnhldfaaGreatDoorYpos
section
set_option maxRecDepth 100000
namespace Go.Proofs.YtalbjjimnhldfaaGreatDoor
open Go.Ev
-- keep num foldI dnum encV encG encT enc1 enc2 enc3 enc Go.Ev.Sli PH
def dnum (l : List Int) : Int := l.foldr (fun b acc => IntKind.wrap .u64 (IntKind.wrap .u64 (acc * 256) + IntKind.wrap .u64 b)) 0
def encV (xs : List Int) (k : Nat) : List Int := (List.range k).flatMap fun j => num (foldI (xs.getD j 0)).toNat
def encG (xs : List Bool) (k : Nat) : List Int := (List.range k).flatMap fun j => num (if xs.getD j false then 1 else 0)
def encT (xs : List Int) (k : Nat) : List Int := (List.range k).flatMap fun j => num (dnum [xs.getD (8 * j) 0, xs.getD (8 * j + 1) 0, xs.getD (8 * j + 2) 0, xs.getD (8 * j + 3) 0, xs.getD (8 * j + 4) 0, xs.getD (8 * j + 5) 0, xs.getD (8 * j + 6) 0, xs.getD (8 * j + 7) 0]).toNat
structure D8 where
  d0 : Int
  d1 : Int
  d2 : Int
  d3 : Int
  d4 : Int
  d5 : Int
  d6 : Int
  d7 : Int
def D8.l (d : D8) : List Int := [d.d0, d.d1, d.d2, d.d3, d.d4, d.d5, d.d6, d.d7]
def enc1 (x : PX) (k : Nat) : List Int := num x.vars.length ++ encV x.vars k
def enc2 (x : PX) (k : Nat) : List Int := enc1 x x.vars.length ++ num x.gone.length ++ encG x.gone k
def enc3 (x : PX) (n k : Nat) : List Int := enc2 x x.gone.length ++ num n ++ encT x.tips k
def encR (a : PA) : List Int := num (foldI a.r0).toNat ++ num (foldI a.r1).toNat ++ num (foldI a.r2).toNat ++ num (foldI a.r3).toNat ++ num a.r4.toNat
def enc (a : PA) (x : PX) : List Int := enc3 x a.s3.l a.s3.l ++ encR a
structure EL where
  i : Int
  l : Nat
  k : Nat
  c : List Value
structure PW (a : PA) (x : PX) : Prop where
  v : ∀ n ∈ x.vars, -2147483648 ≤ n ∧ n ≤ 2147483647
  r0 : -9223372036854775808 ≤ a.r0 ∧ a.r0 ≤ 9223372036854775807
  r1 : -9223372036854775808 ≤ a.r1 ∧ a.r1 ≤ 9223372036854775807
  r2 : -9223372036854775808 ≤ a.r2 ∧ a.r2 ≤ 9223372036854775807
  r3 : -9223372036854775808 ≤ a.r3 ∧ a.r3 ≤ 9223372036854775807
  r4 : 0 ≤ a.r4 ∧ a.r4 < 18446744073709551616
noncomputable section
def S_dnum : SpecD where
  f := 56
  α := D8
  args a := [.agg ⟨[tgI .u8 a.d0, tgI .u8 a.d1, tgI .u8 a.d2, tgI .u8 a.d3, tgI .u8 a.d4, tgI .u8 a.d5, tgI .u8 a.d6, tgI .u8 a.d7]⟩]
  R _ := []
  n := 12
  pre _ := True
  outs := [⟨Unit, fun _ _ => True, fun a _ => tgI .u64 (dnum [a.d0, a.d1, a.d2, a.d3, a.d4, a.d5, a.d6, a.d7]), fun _ _ => [], fun _ _ => 12, fun _ _ => []⟩]
  pick _ _ := 0
  find l _ := some (⟨iv (lv (agv (lv l 0)) 0), iv (lv (agv (lv l 0)) 1), iv (lv (agv (lv l 0)) 2), iv (lv (agv (lv l 0)) 3), iv (lv (agv (lv l 0)) 4), iv (lv (agv (lv l 0)) 5), iv (lv (agv (lv l 0)) 6), iv (lv (agv (lv l 0)) 7)⟩, [])
def G_dnum (a : D8) : Prop := fnW Tryz.prog E0 cw0 [] S_dnum.f (S_dnum.args a) (mem (S_dnum.R a) S_dnum.n) (endD Tryz.prog S_dnum a)
structure S2 where
  a : SA
  b : SA
structure BL where
  b : Bool
def S_same : SpecD where
  f := 21
  α := S2
  args a := [a.a.v 12, a.b.v (12 + 1)]
  R a := [(12, .f a.a.c 5 .gro), (12 + 1, .f a.b.c 5 .gro)]
  n := 12 + 2
  pre a := (∃ xs ys, Sli (Value.int .u8) 1 a.a.n a.a.o a.a.l a.a.k a.a.c xs ∧ Sli (Value.int .u8) 1 a.b.n a.b.o a.b.l a.b.k a.b.c ys) ∧ (a.a.l ≤ 1000000 ∧ a.b.l ≤ 1000000)
  outs := [⟨BL, fun a b => ∀ xs ys, Sli (Value.int .u8) 1 a.a.n a.a.o a.a.l a.a.k a.a.c xs → Sli (Value.int .u8) 1 a.b.n a.b.o a.b.l a.b.k a.b.c ys → (b.b = true ↔ xs = ys), fun _ b => tg (.bool b.b), fun _ _ => [], fun _ _ => 12 + 2, fun _ _ => []⟩]
  pick _ _ := 0
  find l A := some (⟨saOf A (lv l 0), saOf A (lv l 1)⟩, renS 12 (lv l 0) ++ renS (12 + 1) (lv l 1))
structure IL where
  i : Int
def la_same (a : S2) (xs ys : List Int) : LA where
  α := IL
  at_ e := ⟨[(0, a.a.v 12), (1, a.b.v (12 + 1)), (5, tgI .i64 e.i)], S_same.R a, 12 + 2⟩
  J e := (0 ≤ e.i ∧ e.i ≤ a.a.l) ∧ xs.take e.i.toNat = ys.take e.i.toNat
  μ e := (a.a.l - e.i).toNat
  ren _ := []
def G_same (a : S2) (xs ys : List Int) : Prop := fnW Tryz.prog E0 cw0 [some (la_same a xs ys)] S_same.f (S_same.args a) (mem (S_same.R a) S_same.n) (endD Tryz.prog S_same a)
def S_enc : SpecD where
  f := 29
  α := PA
  args a := [a.v 12]
  R a := a.R 12 28
  n := 12 + 3
  pre a := (∃ x, PH a x ∧ PW a x) ∧ (a.s1.l ≤ 70 ∧ a.s2.l ≤ 10 ∧ a.s3.l ≤ 10)
  outs := [⟨RW, fun a b => ∀ x, PH a x → HE .u8 b.c (enc a x) ∧ b.c.length ≤ b.k ∧ b.c.length ≤ 2000, fun _ b => tgS (12 + 3) 0 b.c.length b.k, fun _ b => [(12 + 3, .f b.c 5 (.grown b.k))], fun _ _ => 12 + 4, fun v _ => renS (12 + 3) v⟩]
  pick _ _ := 0
  find l A := some (paOf A (agv (lv l 0)), paN 12 (agv (lv l 0)))
def la_enc (a : PA) (t lim b0 : Nat) (f : Nat → List Int) : LA where
  α := EL
  at_ e := ⟨[(1, .pointer (some ⟨12 + 3, 0, none⟩)), (3, tgS (12 + 4) 0 e.l e.k), (t, tgI .i64 e.i)], (12 + 3, .p (.row (a.s1.v 12 :: a.s2.v (12 + 1) :: a.s3.v (12 + 2) :: rolls a) 66 .own)) :: (12 + 4, .f e.c 5 (.grown e.k)) :: a.R 12 28, 12 + 5⟩
  J e := (0 ≤ e.i ∧ e.i ≤ lim) ∧ ∃ bs, HE .u8 e.c bs ∧ e.l = bs.length ∧ bs.length ≤ e.k ∧ bs = f e.i.toNat ∧ (bs.length : Int) ≤ b0 + 10 * e.i
  μ e := (lim - e.i).toNat
  ren s := renP (12 + 3) (tv s 1) ++ renS (12 + 4) (tv s 3)
def an_enc (a : PA) (x : PX) : Anns := [some (la_enc a 4 a.s1.l 10 (enc1 x)), some (la_enc a 5 a.s2.l 1000 (enc2 x)), some (la_enc a 7 a.s3.l 1500 (enc3 x a.s3.l))]
def cwEnc : CW := cwD Tryz.prog S_num (cwD Tryz.prog S_signed (cwD Tryz.prog S_dnum cw0))
def G_enc (a : PA) (x : PX) : Prop := fnW Tryz.prog E0 cwEnc (an_enc a x) S_enc.f (S_enc.args a) (mem (S_enc.R a) S_enc.n) (endD Tryz.prog S_enc a)
end
end Go.Proofs.YtalbjjimnhldfaaGreatDoor
end

/- The document's bytes of a position: what is told of Encode and Same is so. -/
set_option maxRecDepth 100000
namespace Go.Proofs.YtalbjjimnhldfaaGreatDoor
open Go.Ev
noncomputable section
def W_G_enc_0 : PA → Option AO := fun (a : PA) => Option.some (AO.row [Value.iface (1000000007 : Nat) (Value.int IntKind.i64 a.4), Value.iface (1000000007 : Nat) (Value.int IntKind.i64 a.5), Value.iface (1000000007
: Nat) (Value.int IntKind.i64 a.6), Value.iface (1000000007 : Nat) (Value.int IntKind.i64 a.7), Value.iface (1000000007 : Nat) (Value.int IntKind.u64 a.8)] (64 : Nat) Md.own)
end
theorem vc_dnum (a : D8) : G_dnum a = (∀ x0, x0 = IntKind.wrap .u64 a.8 → ∀ x1, x1 = IntKind.wrap .u64 ((0 : Int) + x0) → ∀ x2, x2 = IntKind.wrap .u64 (x1 * (256 : Int)) → ∀ x3, x3 = IntKind.wrap .u64 a.7 → ∀ x4, x4 =
IntKind.wrap .u64 (x2 + x3) → ∀ x5, x5 = IntKind.wrap .u64 (x4 * (256 : Int)) → ∀ x6, x6 = IntKind.wrap .u64 a.6 → ∀ x7, x7 = IntKind.wrap .u64 (x5 + x6) → ∀ x8, x8 = IntKind.wrap
.u64 (x7 * (256 : Int)) → ∀ x9, x9 = IntKind.wrap .u64 a.5 → ∀ x10, x10 = IntKind.wrap .u64 (x8 + x9) → ∀ x11, x11 = IntKind.wrap .u64 (x10 * (256 : Int)) → ∀ x12, x12 =
IntKind.wrap .u64 a.4 → ∀ x13, x13 = IntKind.wrap .u64 (x11 + x12) → ∀ x14, x14 = IntKind.wrap .u64 (x13 * (256 : Int)) → ∀ x15, x15 = IntKind.wrap .u64 a.3 → ∀ x16, x16 =
IntKind.wrap .u64 (x14 + x15) → ∀ x17, x17 = IntKind.wrap .u64 (x16 * (256 : Int)) → ∀ x18, x18 = IntKind.wrap .u64 a.2 → ∀ x19, x19 = IntKind.wrap .u64 (x17 + x18) → ∀ x20, x20 =
IntKind.wrap .u64 (x19 * (256 : Int)) → ∀ x21, x21 = IntKind.wrap .u64 a.1 → ∀ x22, x22 = IntKind.wrap .u64 (x20 + x21) → ∃ (x23 : Unit), True ∧ dnum [a.1, a.2, a.3, a.4, a.5, a.6,
a.7, a.8] = x22 ∧ True) := by kernel_rfl
theorem vc_same (a : S2) (xs ys : List Int) : G_same a xs ys = (∀ (x0 : Int), x0 = (↑a.1.3 : Int) → ∀ (x1 : Int), x1 = (↑a.2.3 : Int) → (x0 ≠ x1 → ∃ (x2 : BL), (∀ (x3 x4 : List Int), SB a.1.1 a.1.2 a.1.3 a.1.4 a.1.5 x3 → SB a.2.1 a.2.2 a.2.3
a.2.4 a.2.5 x4 → (x2.1 = true ↔ x3 = x4)) ∧ x2.1 = false ∧ True) ∧ (¬x0 ≠ x1 → ∃ (x5 : IL), ((0 ≤ x5.1 ∧ x5.1 ≤ (↑a.1.3 : Int)) ∧ List.take (Int.toNat x5.1) xs = List.take
(Int.toNat x5.1) ys) ∧ ((Z4 a.1 ∧ Z4 a.2 ∧ x5.1 = 0 ∧ True) ∧ (ZF a.1.5 ∧ ZF a.2.5 ∧ True) ∧ True) ∧ ∀ (x6 : IL), (0 ≤ x6.1 ∧ x6.1 ≤ (↑a.1.3 : Int)) ∧ List.take (Int.toNat x6.1) xs
= List.take (Int.toNat x6.1) ys → ∀ (x7 : Int), x7 = (↑a.1.3 : Int) → (x6.1 < x7 → (0 ≤ x6.1 ∧ x6.1 < (↑a.1.3 : Int)) ∧ ∀ (x8 : Nat), x8 = a.1.2 + Int.toNat x6.1 * 1 → ∃ (x9 :
Int), Rd a.1.5 (Nat.add x8 0) (Value.int IntKind.u8 x9) ∧ (0 ≤ x6.1 ∧ x6.1 < (↑a.2.3 : Int)) ∧ ∀ (x10 : Nat), x10 = a.2.2 + Int.toNat x6.1 * 1 → ∃ (x11 : Int), Rd a.2.5 (Nat.add
x10 0) (Value.int IntKind.u8 x11) ∧ (x9 ≠ x11 → (True ∧ True ∧ True ∧ True ∧ True ∧ True ∧ True ∧ True ∧ True ∧ True) ∧ ∃ (x12 : BL), (∀ (x13 x14 : List Int), SB a.1.1 a.1.2 a.1.3
a.1.4 a.1.5 x13 → SB a.2.1 a.2.2 a.2.3 a.2.4 a.2.5 x14 → (x12.1 = true ↔ x13 = x14)) ∧ x12.1 = false ∧ True) ∧ (¬x9 ≠ x11 → (True ∧ True ∧ True ∧ True ∧ True ∧ True ∧ True ∧ True ∧
True ∧ True) ∧ ∀ x15, x15 = IntKind.wrap .i64 (x6.1 + (1 : Int)) → ∃ (x16 : IL), ((0 ≤ x16.1 ∧ x16.1 ≤ (↑a.1.3 : Int)) ∧ List.take (Int.toNat x16.1) xs = List.take (Int.toNat
x16.1) ys) ∧ Int.toNat ((↑a.1.3 : Int) - x16.1) < Int.toNat ((↑a.1.3 : Int) - x6.1) ∧ (Z4 a.1 ∧ Z4 a.2 ∧ x16.1 = x15 ∧ True) ∧ (ZF a.1.5 ∧ ZF a.2.5 ∧ True) ∧ True)) ∧ (¬x6.1 < x7 →
∃ (x17 : BL), (∀ (x18 x19 : List Int), SB a.1.1 a.1.2 a.1.3 a.1.4 a.1.5 x18 → SB a.2.1 a.2.2 a.2.3 a.2.4 a.2.5 x19 → (x17.1 = true ↔ x18 = x19)) ∧ x17.1 = true ∧ True))) := by kernel_rfl
set_option maxHeartbeats 3200000 in
theorem vc_enc (a : PA) (x : PX) : G_enc a x = (∀ (x0 : Int), x0 = (↑a.1.3 : Int) → ∀ x1, x1 = IntKind.wrap .u64 x0 → (True ∧ ((0 : Int) ≤ x1 ∧ x1 < (18446744073709551616 : Int)) ∧ True) ∧ ((x1 = x1 ∧ True) ∧ True) ∧ (∀ (x2 :
Byts), HE IntKind.u8 x2.1 (num (Int.toNat x1)) ∧ List.length x2.1 ≤ x2.2 → ∃ (x3 : EL), ((0 ≤ x3.1 ∧ x3.1 ≤ (↑a.1.3 : Int)) ∧ ∃ (x4 : List Int), HE IntKind.u8 x3.4 x4 ∧ x3.2 =
List.length x4 ∧ List.length x4 ≤ x3.3 ∧ x4 = enc1 x (Int.toNat x3.1) ∧ (↑(List.length x4) : Int) ≤ (10 : Int) + (10 : Int) * x3.1) ∧ ((0 = 0 ∧ (0 = 0 ∧ x3.2 = List.length x2.1 ∧
x3.3 = x2.2) ∧ x3.1 = 0 ∧ True) ∧ ((True ∧ Z4 a.1 ∧ Z4 a.2 ∧ Z4 a.3 ∧ ZR a) ∧ (x3.3 = x2.2 ∧ FlatL x3.4 ∧ x3.4 = x2.1) ∧ ZF a.1.5 ∧ ZF a.2.5 ∧ ZF a.3.5 ∧ True) ∧ True) ∧ ∀ (x5 :
EL), ((0 ≤ x5.1 ∧ x5.1 ≤ (↑a.1.3 : Int)) ∧ ∃ (x6 : List Int), HE IntKind.u8 x5.4 x6 ∧ x5.2 = List.length x6 ∧ List.length x6 ≤ x5.3 ∧ x6 = enc1 x (Int.toNat x5.1) ∧ (↑(List.length
x6) : Int) ≤ (10 : Int) + (10 : Int) * x5.1) → ∀ (x7 : Int), x7 = (↑a.1.3 : Int) → (x5.1 < x7 → (0 ≤ x5.1 ∧ x5.1 < (↑a.1.3 : Int)) ∧ ∀ (x8 : Nat), x8 = a.1.2 + Int.toNat x5.1 * 1 →
∃ (x9 : Int), Rd a.1.5 (Nat.add x8 0) (Value.int IntKind.i32 x9) ∧ ∀ x10, x10 = IntKind.wrap .i64 x9 → (True ∧ ((-9223372036854775808 : Int) ≤ x10 ∧ x10 ≤ (9223372036854775807 :
Int)) ∧ True) ∧ ((x10 = x10 ∧ True) ∧ True) ∧ (∀ (x11 : Byts), HE IntKind.u8 x11.1 (num (Int.toNat (foldI x10))) ∧ List.length x11.1 ≤ x11.2 → 0 + List.length x11.1 * 1 ≤
List.length x11.1 ∧ ∀ (x12 : List Value), x12 = lwin x11.1 0 (List.length x11.1 * 1) → (0 = 0 ∧ List.length x5.4 = x5.2 * 1 ∧ x5.3 = x5.3 ∧ x5.2 ≤ x5.3 ∧ Few (x5.2 + List.length
x11.1) 1 ∧ lall oneK x12 = true) ∧ ∀ (x13 x14 : Nat), x13 = x5.2 + List.length x11.1 → (x14 = if x13 ≤ EL.k x5 then x5.3 else x13) → ∀ x15, x15 = IntKind.wrap .i64 (x5.1 + (1 :
Int)) → ∃ (x16 : EL), ((0 ≤ x16.1 ∧ x16.1 ≤ (↑a.1.3 : Int)) ∧ ∃ (x17 : List Int), HE IntKind.u8 x16.4 x17 ∧ x16.2 = List.length x17 ∧ List.length x17 ≤ x16.3 ∧ x17 = enc1 x
(Int.toNat x16.1) ∧ (↑(List.length x17) : Int) ≤ (10 : Int) + (10 : Int) * x16.1) ∧ Int.toNat ((↑a.1.3 : Int) - x16.1) < Int.toNat ((↑a.1.3 : Int) - x5.1) ∧ (0 = 0 ∧ (0 = 0 ∧ x16.2
= x13 ∧ x16.3 = x14) ∧ x16.1 = x15 ∧ True) ∧ ((True ∧ Z4 a.1 ∧ Z4 a.2 ∧ Z4 a.3 ∧ ZR a) ∧ (x16.3 = x14 ∧ FlatL x16.4 ∧ x16.4 = x5.4 ++ x12) ∧ ZF a.1.5 ∧ ZF a.2.5 ∧ ZF a.3.5 ∧ True)
∧ True) ∧ True) ∧ (¬x5.1 < x7 → ∀ (x18 : Int), x18 = (↑a.2.3 : Int) → ∀ x19, x19 = IntKind.wrap .u64 x18 → (True ∧ ((0 : Int) ≤ x19 ∧ x19 < (18446744073709551616 : Int)) ∧ True) ∧
((x19 = x19 ∧ True) ∧ True) ∧ (∀ (x20 : Byts), HE IntKind.u8 x20.1 (num (Int.toNat x19)) ∧ List.length x20.1 ≤ x20.2 → 0 + List.length x20.1 * 1 ≤ List.length x20.1 ∧ ∀ (x21 : List
Value), x21 = lwin x20.1 0 (List.length x20.1 * 1) → (0 = 0 ∧ List.length x5.4 = x5.2 * 1 ∧ x5.3 = x5.3 ∧ x5.2 ≤ x5.3 ∧ Few (x5.2 + List.length x20.1) 1 ∧ lall oneK x21 = true) ∧ ∀
(x22 x23 : Nat), x22 = x5.2 + List.length x20.1 → (x23 = if x22 ≤ EL.k x5 then x5.3 else x22) → ∃ (x24 : EL), ((0 ≤ x24.1 ∧ x24.1 ≤ (↑a.2.3 : Int)) ∧ ∃ (x25 : List Int), HE
IntKind.u8 x24.4 x25 ∧ x24.2 = List.length x25 ∧ List.length x25 ≤ x24.3 ∧ x25 = enc2 x (Int.toNat x24.1) ∧ (↑(List.length x25) : Int) ≤ (1000 : Int) + (10 : Int) * x24.1) ∧ ((0 =
0 ∧ (0 = 0 ∧ x24.2 = x22 ∧ x24.3 = x23) ∧ x24.1 = 0 ∧ True) ∧ ((True ∧ Z4 a.1 ∧ Z4 a.2 ∧ Z4 a.3 ∧ ZR a) ∧ (x24.3 = x23 ∧ FlatL x24.4 ∧ x24.4 = x5.4 ++ x21) ∧ ZF a.1.5 ∧ ZF a.2.5 ∧
ZF a.3.5 ∧ True) ∧ True) ∧ ∀ (x26 : EL), ((0 ≤ x26.1 ∧ x26.1 ≤ (↑a.2.3 : Int)) ∧ ∃ (x27 : List Int), HE IntKind.u8 x26.4 x27 ∧ x26.2 = List.length x27 ∧ List.length x27 ≤ x26.3 ∧
x27 = enc2 x (Int.toNat x26.1) ∧ (↑(List.length x27) : Int) ≤ (1000 : Int) + (10 : Int) * x26.1) → ∀ (x28 : Int), x28 = (↑a.2.3 : Int) → (x26.1 < x28 → (0 ≤ x26.1 ∧ x26.1 < (↑a.2.3
: Int)) ∧ ∀ (x29 : Nat), x29 = a.2.2 + Int.toNat x26.1 * 1 → ∃ (x30 : Bool), Rd a.2.5 (Nat.add x29 0) (Value.bool x30) ∧ (x30 = true → (True ∧ ((0 : Int) ≤ (1 : Int) ∧ (1 : Int) <
(18446744073709551616 : Int)) ∧ True) ∧ (((1 : Int) = 1 ∧ True) ∧ True) ∧ (∀ (x31 : Byts), HE IntKind.u8 x31.1 (num 1) ∧ List.length x31.1 ≤ x31.2 → 0 + List.length x31.1 * 1 ≤
List.length x31.1 ∧ ∀ (x32 : List Value), x32 = lwin x31.1 0 (List.length x31.1 * 1) → (0 = 0 ∧ List.length x26.4 = x26.2 * 1 ∧ x26.3 = x26.3 ∧ x26.2 ≤ x26.3 ∧ Few (x26.2 +
List.length x31.1) 1 ∧ lall oneK x32 = true) ∧ ∀ (x33 x34 : Nat), x33 = x26.2 + List.length x31.1 → (x34 = if x33 ≤ EL.k x26 then x26.3 else x33) → ∀ x35, x35 = IntKind.wrap .i64
(x26.1 + (1 : Int)) → ∃ (x36 : EL), ((0 ≤ x36.1 ∧ x36.1 ≤ (↑a.2.3 : Int)) ∧ ∃ (x37 : List Int), HE IntKind.u8 x36.4 x37 ∧ x36.2 = List.length x37 ∧ List.length x37 ≤ x36.3 ∧ x37 =
enc2 x (Int.toNat x36.1) ∧ (↑(List.length x37) : Int) ≤ (1000 : Int) + (10 : Int) * x36.1) ∧ Int.toNat ((↑a.2.3 : Int) - x36.1) < Int.toNat ((↑a.2.3 : Int) - x26.1) ∧ (0 = 0 ∧ (0 =
0 ∧ x36.2 = x33 ∧ x36.3 = x34) ∧ x36.1 = x35 ∧ True) ∧ ((True ∧ Z4 a.1 ∧ Z4 a.2 ∧ Z4 a.3 ∧ ZR a) ∧ (x36.3 = x34 ∧ FlatL x36.4 ∧ x36.4 = x26.4 ++ x32) ∧ ZF a.1.5 ∧ ZF a.2.5 ∧ ZF
a.3.5 ∧ True) ∧ True) ∧ True) ∧ (x30 = false → (True ∧ ((0 : Int) ≤ (0 : Int) ∧ (0 : Int) < (18446744073709551616 : Int)) ∧ True) ∧ (((0 : Int) = 0 ∧ True) ∧ True) ∧ (∀ (x38 :
Byts), HE IntKind.u8 x38.1 (num 0) ∧ List.length x38.1 ≤ x38.2 → 0 + List.length x38.1 * 1 ≤ List.length x38.1 ∧ ∀ (x39 : List Value), x39 = lwin x38.1 0 (List.length x38.1 * 1) →
(0 = 0 ∧ List.length x26.4 = x26.2 * 1 ∧ x26.3 = x26.3 ∧ x26.2 ≤ x26.3 ∧ Few (x26.2 + List.length x38.1) 1 ∧ lall oneK x39 = true) ∧ ∀ (x40 x41 : Nat), x40 = x26.2 + List.length
x38.1 → (x41 = if x40 ≤ EL.k x26 then x26.3 else x40) → ∀ x42, x42 = IntKind.wrap .i64 (x26.1 + (1 : Int)) → ∃ (x43 : EL), ((0 ≤ x43.1 ∧ x43.1 ≤ (↑a.2.3 : Int)) ∧ ∃ (x44 : List
Int), HE IntKind.u8 x43.4 x44 ∧ x43.2 = List.length x44 ∧ List.length x44 ≤ x43.3 ∧ x44 = enc2 x (Int.toNat x43.1) ∧ (↑(List.length x44) : Int) ≤ (1000 : Int) + (10 : Int) * x43.1)
∧ Int.toNat ((↑a.2.3 : Int) - x43.1) < Int.toNat ((↑a.2.3 : Int) - x26.1) ∧ (0 = 0 ∧ (0 = 0 ∧ x43.2 = x40 ∧ x43.3 = x41) ∧ x43.1 = x42 ∧ True) ∧ ((True ∧ Z4 a.1 ∧ Z4 a.2 ∧ Z4 a.3 ∧
ZR a) ∧ (x43.3 = x41 ∧ FlatL x43.4 ∧ x43.4 = x26.4 ++ x39) ∧ ZF a.1.5 ∧ ZF a.2.5 ∧ ZF a.3.5 ∧ True) ∧ True) ∧ True)) ∧ (¬x26.1 < x28 → ∀ (x45 : Int), x45 = (↑a.3.3 : Int) → ∀ x46,
x46 = IntKind.wrap .u64 x45 → (True ∧ ((0 : Int) ≤ x46 ∧ x46 < (18446744073709551616 : Int)) ∧ True) ∧ ((x46 = x46 ∧ True) ∧ True) ∧ (∀ (x47 : Byts), HE IntKind.u8 x47.1 (num
(Int.toNat x46)) ∧ List.length x47.1 ≤ x47.2 → 0 + List.length x47.1 * 1 ≤ List.length x47.1 ∧ ∀ (x48 : List Value), x48 = lwin x47.1 0 (List.length x47.1 * 1) → (0 = 0 ∧
List.length x26.4 = x26.2 * 1 ∧ x26.3 = x26.3 ∧ x26.2 ≤ x26.3 ∧ Few (x26.2 + List.length x47.1) 1 ∧ lall oneK x48 = true) ∧ ∀ (x49 x50 : Nat), x49 = x26.2 + List.length x47.1 →
(x50 = if x49 ≤ EL.k x26 then x26.3 else x49) → ∃ (x51 : EL), ((0 ≤ x51.1 ∧ x51.1 ≤ (↑a.3.3 : Int)) ∧ ∃ (x52 : List Int), HE IntKind.u8 x51.4 x52 ∧ x51.2 = List.length x52 ∧
List.length x52 ≤ x51.3 ∧ x52 = enc3 x a.3.3 (Int.toNat x51.1) ∧ (↑(List.length x52) : Int) ≤ (1500 : Int) + (10 : Int) * x51.1) ∧ ((0 = 0 ∧ (0 = 0 ∧ x51.2 = x49 ∧ x51.3 = x50) ∧
x51.1 = 0 ∧ True) ∧ ((True ∧ Z4 a.1 ∧ Z4 a.2 ∧ Z4 a.3 ∧ ZR a) ∧ (x51.3 = x50 ∧ FlatL x51.4 ∧ x51.4 = x26.4 ++ x48) ∧ ZF a.1.5 ∧ ZF a.2.5 ∧ ZF a.3.5 ∧ True) ∧ True) ∧ ∀ (x53 : EL),
((0 ≤ x53.1 ∧ x53.1 ≤ (↑a.3.3 : Int)) ∧ ∃ (x54 : List Int), HE IntKind.u8 x53.4 x54 ∧ x53.2 = List.length x54 ∧ List.length x54 ≤ x53.3 ∧ x54 = enc3 x a.3.3 (Int.toNat x53.1) ∧
(↑(List.length x54) : Int) ≤ (1500 : Int) + (10 : Int) * x53.1) → ∀ (x55 : Int), x55 = (↑a.3.3 : Int) → (x53.1 < x55 → (0 ≤ x53.1 ∧ x53.1 < (↑a.3.3 : Int)) ∧ ∀ (x56 : Nat), x56 =
a.3.2 + Int.toNat x53.1 * 8 → ∃ (x57 : Int), Rd a.3.5 (Nat.add x56 0) (Value.int IntKind.u8 x57) ∧ ∃ (x58 : Int), Rd a.3.5 (Nat.add x56 1) (Value.int IntKind.u8 x58) ∧ ∃ (x59 :
Int), Rd a.3.5 (Nat.add x56 2) (Value.int IntKind.u8 x59) ∧ ∃ (x60 : Int), Rd a.3.5 (Nat.add x56 3) (Value.int IntKind.u8 x60) ∧ ∃ (x61 : Int), Rd a.3.5 (Nat.add x56 4) (Value.int
IntKind.u8 x61) ∧ ∃ (x62 : Int), Rd a.3.5 (Nat.add x56 5) (Value.int IntKind.u8 x62) ∧ ∃ (x63 : Int), Rd a.3.5 (Nat.add x56 6) (Value.int IntKind.u8 x63) ∧ ∃ (x64 : Int), Rd a.3.5
(Nat.add x56 7) (Value.int IntKind.u8 x64) ∧ (True ∧ True) ∧ (((x57 = x57 ∧ x58 = x58 ∧ x59 = x59 ∧ x60 = x60 ∧ x61 = x61 ∧ x62 = x62 ∧ x63 = x63 ∧ x64 = x64 ∧ True) ∧ True) ∧
True) ∧ (∀ (x65 : Unit), True → (True ∧ ((0 : Int) ≤ dnum [x57, x58, x59, x60, x61, x62, x63, x64] ∧ dnum [x57, x58, x59, x60, x61, x62, x63, x64] < (18446744073709551616 : Int)) ∧
True) ∧ ((dnum [x57, x58, x59, x60, x61, x62, x63, x64] = dnum [x57, x58, x59, x60, x61, x62, x63, x64] ∧ True) ∧ True) ∧ (∀ (x66 : Byts), HE IntKind.u8 x66.1 (num (Int.toNat (dnum
[x57, x58, x59, x60, x61, x62, x63, x64]))) ∧ List.length x66.1 ≤ x66.2 → 0 + List.length x66.1 * 1 ≤ List.length x66.1 ∧ ∀ (x67 : List Value), x67 = lwin x66.1 0 (List.length
x66.1 * 1) → (0 = 0 ∧ List.length x53.4 = x53.2 * 1 ∧ x53.3 = x53.3 ∧ x53.2 ≤ x53.3 ∧ Few (x53.2 + List.length x66.1) 1 ∧ lall oneK x67 = true) ∧ ∀ (x68 x69 : Nat), x68 = x53.2 +
List.length x66.1 → (x69 = if x68 ≤ EL.k x53 then x53.3 else x68) → ∀ x70, x70 = IntKind.wrap .i64 (x53.1 + (1 : Int)) → ∃ (x71 : EL), ((0 ≤ x71.1 ∧ x71.1 ≤ (↑a.3.3 : Int)) ∧ ∃
(x72 : List Int), HE IntKind.u8 x71.4 x72 ∧ x71.2 = List.length x72 ∧ List.length x72 ≤ x71.3 ∧ x72 = enc3 x a.3.3 (Int.toNat x71.1) ∧ (↑(List.length x72) : Int) ≤ (1500 : Int) +
(10 : Int) * x71.1) ∧ Int.toNat ((↑a.3.3 : Int) - x71.1) < Int.toNat ((↑a.3.3 : Int) - x53.1) ∧ (0 = 0 ∧ (0 = 0 ∧ x71.2 = x68 ∧ x71.3 = x69) ∧ x71.1 = x70 ∧ True) ∧ ((True ∧ Z4 a.1
∧ Z4 a.2 ∧ Z4 a.3 ∧ ZR a) ∧ (x71.3 = x69 ∧ FlatL x71.4 ∧ x71.4 = x53.4 ++ x67) ∧ ZF a.1.5 ∧ ZF a.2.5 ∧ ZF a.3.5 ∧ True) ∧ True) ∧ True) ∧ True) ∧ (¬x53.1 < x55 → (True ∧
(-9223372036854775808 ≤ a.4 ∧ a.4 ≤ 9223372036854775807) ∧ True) ∧ ((a.4 = a.4 ∧ True) ∧ True) ∧ (∀ (x73 : Byts), HE IntKind.u8 x73.1 (num (Int.toNat (foldI a.4))) ∧ List.length
x73.1 ≤ x73.2 → 0 + List.length x73.1 * 1 ≤ List.length x73.1 ∧ ∀ (x74 : List Value), x74 = lwin x73.1 0 (List.length x73.1 * 1) → (0 = 0 ∧ List.length x53.4 = x53.2 * 1 ∧ x53.3 =
x53.3 ∧ x53.2 ≤ x53.3 ∧ Few (x53.2 + List.length x73.1) 1 ∧ lall oneK x74 = true) ∧ ∀ (x75 x76 : Nat), x75 = x53.2 + List.length x73.1 → (x76 = if x75 ≤ EL.k x53 then x53.3 else
x75) → (True ∧ (-9223372036854775808 ≤ a.5 ∧ a.5 ≤ 9223372036854775807) ∧ True) ∧ ((a.5 = a.5 ∧ True) ∧ True) ∧ (∀ (x77 : Byts), HE IntKind.u8 x77.1 (num (Int.toNat (foldI a.5))) ∧
List.length x77.1 ≤ x77.2 → 0 + List.length x77.1 * 1 ≤ List.length x77.1 ∧ ∀ (x78 : List Value), x78 = lwin x77.1 0 (List.length x77.1 * 1) → (0 = 0 ∧ List.length (x53.4 ++ x74) =
x75 * 1 ∧ x76 = x76 ∧ x75 ≤ x76 ∧ Few (x75 + List.length x77.1) 1 ∧ lall oneK x78 = true) ∧ ∀ (x79 x80 : Nat), x79 = x75 + List.length x77.1 → (x80 = if x79 ≤ x76 then x76 else
x79) → ((True ∧ True) ∧ True ∧ True ∧ True ∧ True ∧ (True ∧ True ∧ True) ∧ (W_G_enc_0 a = W_G_enc_0 a ∧ W_G_enc_0 a = W_G_enc_0 a ∧ True) ∧ True ∧ True ∧ True ∧ True) ∧ (True ∧
(-9223372036854775808 ≤ a.6 ∧ a.6 ≤ 9223372036854775807) ∧ True) ∧ ((a.6 = a.6 ∧ True) ∧ True) ∧ (∀ (x81 : Byts), HE IntKind.u8 x81.1 (num (Int.toNat (foldI a.6))) ∧ List.length
x81.1 ≤ x81.2 → 0 + List.length x81.1 * 1 ≤ List.length x81.1 ∧ ∀ (x82 : List Value), x82 = lwin x81.1 0 (List.length x81.1 * 1) → (0 = 0 ∧ List.length (x53.4 ++ x74 ++ x78) = x79
* 1 ∧ x80 = x80 ∧ x79 ≤ x80 ∧ Few (x79 + List.length x81.1) 1 ∧ lall oneK x82 = true) ∧ ∀ (x83 x84 : Nat), x83 = x79 + List.length x81.1 → (x84 = if x83 ≤ x80 then x80 else x83) →
(True ∧ (-9223372036854775808 ≤ a.7 ∧ a.7 ≤ 9223372036854775807) ∧ True) ∧ ((a.7 = a.7 ∧ True) ∧ True) ∧ (∀ (x85 : Byts), HE IntKind.u8 x85.1 (num (Int.toNat (foldI a.7))) ∧
List.length x85.1 ≤ x85.2 → 0 + List.length x85.1 * 1 ≤ List.length x85.1 ∧ ∀ (x86 : List Value), x86 = lwin x85.1 0 (List.length x85.1 * 1) → (0 = 0 ∧ List.length (x53.4 ++ x74 ++
x78 ++ x82) = x83 * 1 ∧ x84 = x84 ∧ x83 ≤ x84 ∧ Few (x83 + List.length x85.1) 1 ∧ lall oneK x86 = true) ∧ ∀ (x87 x88 : Nat), x87 = x83 + List.length x85.1 → (x88 = if x87 ≤ x84
then x84 else x87) → ((True ∧ True) ∧ True ∧ True ∧ True ∧ True ∧ (True ∧ True ∧ True) ∧ (W_G_enc_0 a = W_G_enc_0 a ∧ W_G_enc_0 a = W_G_enc_0 a ∧ True) ∧ True ∧ True ∧ True ∧ True)
∧ (True ∧ (0 ≤ a.8 ∧ a.8 < 18446744073709551616) ∧ True) ∧ ((a.8 = a.8 ∧ True) ∧ True) ∧ (∀ (x89 : Byts), HE IntKind.u8 x89.1 (num (Int.toNat a.8)) ∧ List.length x89.1 ≤ x89.2 → 0
+ List.length x89.1 * 1 ≤ List.length x89.1 ∧ ∀ (x90 : List Value), x90 = lwin x89.1 0 (List.length x89.1 * 1) → (0 = 0 ∧ List.length (x53.4 ++ x74 ++ x78 ++ x82 ++ x86) = x87 * 1
∧ x88 = x88 ∧ x87 ≤ x88 ∧ Few (x87 + List.length x89.1) 1 ∧ lall oneK x90 = true) ∧ ∀ (x91 x92 : Nat), x91 = x87 + List.length x89.1 → (x92 = if x91 ≤ x88 then x88 else x91) → ∃
(x93 : RW), (∀ (x94 : PX), PH a x94 → HE IntKind.u8 x93.2 (enc a x94) ∧ List.length x93.2 ≤ x93.1 ∧ List.length x93.2 ≤ 2000) ∧ (0 = 0 ∧ List.length x93.2 = x91 ∧ x93.1 = x92) ∧
(x93.1 = x92 ∧ FlatL x93.2 ∧ x93.2 = x53.4 ++ x74 ++ x78 ++ x82 ++ x86 ++ x90) ∧ True) ∧ True) ∧ True) ∧ True) ∧ True) ∧ True)) ∧ True)) ∧ True)) ∧ True) := by kernel_rfl
theorem g_dnum (a : D8) : G_dnum a := by
  rw [vc_dnum]
  intro x0 e0 x1 e1 x2 e2 x3 e3 x4 e4 x5 e5 x6 e6 x7 e7 x8 e8 x9 e9 x10 e10 x11 e11 x12 e12 x13 e13 x14 e14 x15 e15 x16 e16 x17 e17 x18 e18 x19 e19 x20 e20 x21 e21 x22 e22
  subst_vars
  exact ⟨(), trivial, rfl, trivial⟩
theorem s_dnum : SpecOK Tryz.prog S_dnum.spec := fun a => specD_at (an := []) envOK cw0_ok fun _ => g_dnum a
theorem Rd.int {k : IntKind} {c : List Value} {o : Nat} {x y : Int} (h : Rd c o (.int k x)) (g : Rd c o (.int k y)) : x = y := by
  unfold Rd at h g
  rcases h with h | h <;> rcases g with g | g <;> rw [h] at g <;> first | (cases g; rfl) | (injection g with g; cases g)
theorem Rd.bool {c : List Value} {o : Nat} {x y : Bool} (h : Rd c o (.bool x)) (g : Rd c o (.bool y)) : x = y := by
  unfold Rd at h g
  rcases h with h | h <;> rcases g with g | g <;> rw [h] at g <;> first | (cases g; rfl) | (injection g with g; cases g)
theorem HV.uniq {α : Type} {f : α → Value} (hf : ∀ c o x y, Rd c o (f x) → Rd c o (f y) → x = y) {c : List Value} {o : Nat} {xs ys : List α} (h : HV f c o xs) (g : HV f c o ys) (hl : xs.length = ys.length) : xs = ys := by
  apply List.ext_getElem hl
  intro i h1 h2
  exact hf c (o + i) _ _ (h.get h1) (g.get h2)
theorem Sli.uniqI {k : IntKind} {sz o l k' : Nat} {nb : Bool} {c : List Value} {xs ys : List Int} (h : Sli (Value.int k) sz nb o l k' c xs) (g : Sli (Value.int k) sz nb o l k' c ys) : xs = ys := HV.uniq (fun _ _ _ _ => Rd.int) h.at_ g.at_ (h.len.trans g.len.symm)
theorem Sli.uniqB {sz o l k' : Nat} {nb : Bool} {c : List Value} {xs ys : List Bool} (h : Sli Value.bool sz nb o l k' c xs) (g : Sli Value.bool sz nb o l k' c ys) : xs = ys := HV.uniq (fun _ _ _ _ => Rd.bool) h.at_ g.at_ (h.len.trans g.len.symm)
theorem PH.uniq {a : PA} {x y : PX} (h : PH a x) (g : PH a y) : x = y := by
  obtain ⟨x1, x2, x3⟩ := x
  obtain ⟨y1, y2, y3⟩ := y
  have e1 : x1 = y1 := Sli.uniqI h.p1 g.p1
  have e2 : x2 = y2 := Sli.uniqB h.p2 g.p2
  have e3 : x3 = y3 := Sli.uniqI h.p3 g.p3
  rw [e1, e2, e3]
theorem take_succ_eq {xs ys : List Int} {i : Nat} (h : xs.take i = ys.take i) (h1 : i < xs.length) (h2 : i < ys.length) (he : xs[i] = ys[i]) : xs.take (i + 1) = ys.take (i + 1) := by
  rw [List.take_add_one, List.take_add_one, h, List.getElem?_eq_getElem h1, List.getElem?_eq_getElem h2, he]
theorem g_same (a : S2) (xs ys : List Int) (hx : Sli (Value.int .u8) 1 a.a.n a.a.o a.a.l a.a.k a.a.c xs) (hy : Sli (Value.int .u8) 1 a.b.n a.b.o a.b.l a.b.k a.b.c ys) (b1 : a.a.l ≤ 1000000) (b2 : a.b.l ≤ 1000000) : G_same a xs ys := by
  have lx := hx.len
  have ly := hy.len
  have fx := hx.flat
  have fy := hy.flat
  rw [vc_same]
  intro x0 e0 x1 e1
  refine ⟨fun hne => ⟨⟨false⟩, fun u v hu hv => ⟨fun h => (by cases h), fun h => ?_⟩, rfl, trivial⟩, fun heq => ?_⟩
  · have := hu.len; have := hv.len; subst h; omega
  have e01 : a.a.l = a.b.l := by omega
  refine ⟨⟨0⟩, ⟨⟨by decide, by simp⟩, by simp⟩, ?_, ?_⟩
  · repeat' first
      | with_reducible apply And.intro
      | exact trivial
      | exact rfl
      | assumption
  rintro ⟨i⟩ ⟨⟨hi0, hi1⟩, ht⟩ x7 e7
  dsimp only at hi0 hi1 ht ⊢
  refine ⟨fun hlt => ?_, fun hge => ?_⟩
  · have h1 : i.toNat < xs.length := by omega
    have h2 : i.toNat < ys.length := by omega
    refine ⟨⟨hi0, by omega⟩, fun p hp => ⟨xs[i.toNat], by rw [hp, Nat.mul_one]; exact hx.at_.get h1, ⟨hi0, by omega⟩, fun q hq => ⟨ys[i.toNat], by rw [hq, Nat.mul_one]; exact hy.at_.get h2, fun hne => ⟨?_, ⟨false⟩, fun u v hu hv => ⟨fun h => (by cases h), fun h => ?_⟩, rfl, trivial⟩, fun hee => ⟨?_, fun z hz => ?_⟩⟩⟩⟩
    · repeat' first
        | with_reducible apply And.intro
        | exact trivial
        | exact rfl
    · exfalso
      have e1 := Sli.uniqI hu hx
      have e2 := Sli.uniqI hv hy
      subst e1 e2
      apply hne
      subst h
      rfl
    · repeat' first
        | with_reducible apply And.intro
        | exact trivial
        | exact rfl
    · rw [wrap_i64] at hz
      have hz' : z.toNat = i.toNat + 1 := by omega
      refine ⟨⟨z⟩, ⟨⟨by show 0 ≤ z; omega, by show z ≤ _; omega⟩, by (show xs.take z.toNat = ys.take z.toNat); rw [hz']; exact take_succ_eq ht h1 h2 (Decidable.not_not.1 hee)⟩, by show ((a.a.l : Int) - z).toNat < ((a.a.l : Int) - i).toNat; omega, ?_⟩
      repeat' first
        | with_reducible apply And.intro
        | exact trivial
        | exact rfl
        | assumption
  · refine ⟨⟨true⟩, fun u v hu hv => ⟨fun _ => ?_, fun _ => rfl⟩, rfl, trivial⟩
    have e1 := Sli.uniqI hu hx
    have e2 := Sli.uniqI hv hy
    subst e1 e2
    rw [List.take_of_length_le (by omega), List.take_of_length_le (by omega)] at ht
    exact ht
theorem s_same : SpecOK Tryz.prog S_same.spec := fun a K hp hq => by
  obtain ⟨⟨xs, ys, hx, hy⟩, b1, b2⟩ := hp
  exact specD_at (an := [some (la_same a xs ys)]) envOK cw0_ok (fun _ => g_same a xs ys hx hy b1 b2) K ⟨⟨xs, ys, hx, hy⟩, b1, b2⟩ hq
structure Sb (c : List Value) (l k : Nat) (bs : List Int) : Prop where
  he : HE .u8 c bs
  l : l = bs.length
  k : bs.length ≤ k
theorem Sb.app {c y : List Value} {l k : Nat} {bs zs : List Int} (h : Sb c l k bs) (hy : HE .u8 y zs) (hb : bs.length + zs.length ≤ 3000) : 0 + y.length * 1 ≤ y.length ∧ ∀ ys : List Value, ys = lwin y 0 (y.length * 1) →
    ((0 : Nat) = 0 ∧ c.length = l * 1 ∧ k = k ∧ l ≤ k ∧ Few (l + y.length) 1 ∧ lall oneK ys = true) ∧ ∀ n k' : Nat, n = l + y.length → k' = (if n ≤ k then k else n) → Sb (c ++ ys) n k' (bs ++ zs) := by
  have hl := h.l
  have hk := h.k
  have hc := h.he.len
  have hyl := hy.len
  refine ⟨by omega, fun ys hys => ?_⟩
  have hw : HE .u8 ys zs := by rw [hys, Nat.mul_one, hyl]; exact hy.win
  refine ⟨⟨rfl, by omega, rfl, by omega, by unfold Few; omega, hw.oneK⟩, fun n k' hn hk' => ⟨h.he.append hw, by simp; omega, ?_⟩⟩
  rw [hk']; simp; split <;> omega
theorem enc1_zero (x : PX) : enc1 x 0 = num x.vars.length := by simp [enc1, encV]
theorem enc1_succ (x : PX) (k : Nat) : enc1 x (k + 1) = enc1 x k ++ num (foldI (x.vars.getD k 0)).toNat := by simp [enc1, encV, List.range_succ]
theorem enc2_zero (x : PX) : enc2 x 0 = enc1 x x.vars.length ++ num x.gone.length := by simp [enc2, encG]
theorem enc2_succ (x : PX) (k : Nat) : enc2 x (k + 1) = enc2 x k ++ num (if x.gone.getD k false then 1 else 0) := by simp [enc2, encG, List.range_succ]
theorem enc3_zero (x : PX) (n : Nat) : enc3 x n 0 = enc2 x x.gone.length ++ num n := by simp [enc3, encT]
theorem enc3_succ (x : PX) (n k : Nat) : enc3 x n (k + 1) = enc3 x n k ++ num (dnum [x.tips.getD (8 * k) 0, x.tips.getD (8 * k + 1) 0, x.tips.getD (8 * k + 2) 0, x.tips.getD (8 * k + 3) 0, x.tips.getD (8 * k + 4) 0, x.tips.getD (8 * k + 5) 0, x.tips.getD (8 * k + 6) 0, x.tips.getD (8 * k + 7) 0]).toNat := by
  simp [enc3, encT, List.range_succ]
theorem dnum_in (l : List Int) : 0 ≤ dnum l ∧ dnum l < 18446744073709551616 := by
  cases l with
  | nil => exact ⟨Int.le_refl _, by decide⟩
  | cons b l => unfold dnum; rw [List.foldr_cons, wrap_u64]; omega
theorem getD_get {xs : List Int} {i : Nat} (h : i < xs.length) : xs.getD i 0 = xs[i] := by simp [List.getD, h]
theorem getD_getB {xs : List Bool} {i : Nat} (h : i < xs.length) : xs.getD i false = xs[i] := by simp [List.getD, h]
theorem g_enc (a : PA) (x : PX) (hx : PH a x) (hw : PW a x) (b1 : a.s1.l ≤ 70) (b2 : a.s2.l ≤ 10) (b3 : a.s3.l ≤ 10) : G_enc a x := by
  have l1 : x.vars.length = a.s1.l := by have := hx.p1.len; omega
  have l2 : x.gone.length = a.s2.l := by have := hx.p2.len; omega
  have l3 : x.tips.length = a.s3.l * 8 := hx.p3.len
  have f1 := hx.p1.flat
  have f2 := hx.p2.flat
  have f3 := hx.p3.flat
  rw [vc_enc]
  intro z0 e0 z1 e1
  rw [wrap_u64] at e1
  have ez : z1.toNat = x.vars.length := by omega
  refine ⟨⟨trivial, ⟨by omega, by omega⟩, trivial⟩, ⟨⟨rfl, trivial⟩, trivial⟩, ?_, trivial⟩
  rintro ⟨y0, ky0⟩ ⟨hy0, hk0⟩
  dsimp only at hy0 hk0
  rw [ez] at hy0
  have n0 := num_len10 (n := x.vars.length) (by omega)
  refine ⟨⟨0, y0.length, ky0, y0⟩, ⟨⟨by show (0 : Int) ≤ 0; decide, by show (0 : Int) ≤ _; omega⟩, _, hy0, hy0.len, by rw [← hy0.len]; exact hk0, (enc1_zero x).symm, by show _ ≤ (10 : Int) + 10 * 0; omega⟩, ?_, ?_⟩
  · have q0 := hy0.flat
    repeat' first
      | with_reducible apply And.intro
      | exact trivial
      | exact rfl
      | assumption
  rintro ⟨i, l, k, c⟩ ⟨⟨hi0, hi1⟩, bs, hc, hl, hk, hbs, hbl⟩ z7 e7
  dsimp only at hi0 hi1 hc hl hk hbs hbl ⊢
  have st : Sb c l k bs := ⟨hc, hl, hk⟩
  refine ⟨fun hlt => ?_, fun hge => ?_⟩
  · -- a number
    have hiv : i.toNat < x.vars.length := by omega
    refine ⟨⟨hi0, by omega⟩, fun p hp => ⟨x.vars[i.toNat], by rw [hp, Nat.mul_one]; exact hx.p1.at_.get hiv, fun z10 e10 => ?_⟩⟩
    have hr := hw.v _ (List.getElem_mem hiv)
    rw [wrap_i64] at e10
    have ez10 : z10 = x.vars[i.toNat] := by omega
    refine ⟨⟨trivial, ⟨by omega, by omega⟩, trivial⟩, ⟨⟨rfl, trivial⟩, trivial⟩, ?_, trivial⟩
    rintro ⟨y, ky⟩ ⟨hy, hky⟩
    dsimp only at hy hky ⊢
    have ny := num_len10 (n := (foldI z10).toNat) (by have := fold_in (a := z10) (by omega); omega)
    obtain ⟨s1, s2⟩ := st.app hy (by omega)
    refine ⟨s1, fun ys hys => ⟨(s2 ys hys).1, fun n k' hn hk' z15 e15 => ?_⟩⟩
    have st' := (s2 ys hys).2 n k' hn hk'
    rw [wrap_i64] at e15
    have ei : z15.toNat = i.toNat + 1 := by omega
    refine ⟨⟨z15, n, k', c ++ ys⟩, ⟨⟨by show 0 ≤ z15; omega, by show z15 ≤ _; omega⟩, _, st'.he, st'.l, st'.k, ?_, ?_⟩, by show ((a.s1.l : Int) - z15).toNat < ((a.s1.l : Int) - i).toNat; omega, ?_, ?_⟩
    · show _ = enc1 x z15.toNat
      rw [ei, enc1_succ, hbs, getD_get hiv, ez10]
    · show _ ≤ (10 : Int) + 10 * z15
      simp; omega
    all_goals
      have q0 := st'.he.flat
      repeat' first
        | with_reducible apply And.intro
        | exact trivial
        | exact rfl
        | assumption
  -- the second part
  have ei : i.toNat = x.vars.length := by omega
  intro z18 e18 z19 e19
  rw [wrap_u64] at e19
  have ez19 : z19.toNat = x.gone.length := by omega
  refine ⟨⟨trivial, ⟨by omega, by omega⟩, trivial⟩, ⟨⟨rfl, trivial⟩, trivial⟩, ?_, trivial⟩
  rintro ⟨y1, ky1⟩ ⟨hy1, hk1⟩
  dsimp only at hy1 hk1 ⊢
  rw [ez19] at hy1
  have n1 := num_len10 (n := x.gone.length) (by omega)
  obtain ⟨s1, s2⟩ := st.app hy1 (by omega)
  refine ⟨s1, fun ys hys => ⟨(s2 ys hys).1, fun n k' hn hk' => ?_⟩⟩
  have st1 := (s2 ys hys).2 n k' hn hk'
  clear s1 s2
  refine ⟨⟨0, n, k', c ++ ys⟩, ⟨⟨by show (0 : Int) ≤ 0; decide, by show (0 : Int) ≤ _; omega⟩, _, st1.he, st1.l, st1.k, ?_, ?_⟩, ?_, ?_⟩
  · show _ = enc2 x 0
    rw [enc2_zero, hbs, ei]
  · show _ ≤ (1000 : Int) + 10 * 0
    simp; omega
  · have q0 := st1.he.flat
    repeat' first
      | with_reducible apply And.intro
      | exact trivial
      | exact rfl
      | assumption
  clear st st1 hbs hbl hc hl hk hn hk' hys
  rintro ⟨i, l, k, c⟩ ⟨⟨hi0, hi1⟩, bs, hc, hl, hk, hbs, hbl⟩ z28 e28
  dsimp only at hi0 hi1 hc hl hk hbs hbl ⊢
  have st : Sb c l k bs := ⟨hc, hl, hk⟩
  refine ⟨fun hlt => ?_, fun hge => ?_⟩
  · have hiv : i.toNat < x.gone.length := by omega
    have bit : ∀ (b : Nat) (y : List Value), b ≤ 1 → x.gone[i.toNat] = decide (b = 1) → HE .u8 y (num b) → 0 + y.length * 1 ≤ y.length ∧ ∀ ys : List Value, ys = lwin y 0 (y.length * 1) →
        ((0 : Nat) = 0 ∧ c.length = l * 1 ∧ k = k ∧ l ≤ k ∧ Few (l + y.length) 1 ∧ lall oneK ys = true) ∧ ∀ n k' : Nat, n = l + y.length → k' = (if n ≤ k then k else n) → ∀ z : Int, z = IntKind.wrap .i64 (i + 1) →
        Sb (c ++ ys) n k' (enc2 x z.toNat) ∧ (0 ≤ z ∧ z ≤ a.s2.l) ∧ ((enc2 x z.toNat).length : Int) ≤ 1000 + 10 * z ∧ ((a.s2.l : Int) - z).toNat < ((a.s2.l : Int) - i).toNat := fun b y hb1 hb2 hy => by
      have ny := num_len10 (n := b) (by omega)
      obtain ⟨s1, s2⟩ := st.app hy (by omega)
      refine ⟨s1, fun ys hys => ⟨(s2 ys hys).1, fun n k' hn hk' z hz => ?_⟩⟩
      have st' := (s2 ys hys).2 n k' hn hk'
      rw [wrap_i64] at hz
      have ei : z.toNat = i.toNat + 1 := by omega
      have ee : enc2 x z.toNat = bs ++ num b := by
        rw [ei, enc2_succ, hbs, getD_getB hiv, hb2]
        congr 2
        by_cases h1 : b = 1
        · simp [h1]
        · simp [h1]; omega
      rw [ee]
      exact ⟨st', ⟨by omega, by omega⟩, by simp; omega, by omega⟩
    refine ⟨⟨hi0, by omega⟩, fun p hp => ⟨x.gone[i.toNat], by rw [hp, Nat.mul_one]; exact hx.p2.at_.get hiv, fun ht => ⟨⟨trivial, ⟨by decide, by decide⟩, trivial⟩, ⟨⟨rfl, trivial⟩, trivial⟩, ?_, trivial⟩, fun hf => ⟨⟨trivial, ⟨by decide, by decide⟩, trivial⟩, ⟨⟨rfl, trivial⟩, trivial⟩, ?_, trivial⟩⟩⟩
    · rintro ⟨y, ky⟩ ⟨hy, hky⟩
      dsimp only at hy hky ⊢
      obtain ⟨s1, s2⟩ := bit 1 y (by omega) (by rw [ht]; rfl) hy
      refine ⟨s1, fun ys hys => ⟨(s2 ys hys).1, fun n k' hn hk' z hz => ?_⟩⟩
      obtain ⟨st', r1, r2, r3⟩ := (s2 ys hys).2 n k' hn hk' z hz
      refine ⟨⟨z, n, k', c ++ ys⟩, ⟨r1, _, st'.he, st'.l, st'.k, rfl, r2⟩, r3, ?_, ?_⟩
      all_goals
        have q0 := st'.he.flat
        repeat' first
          | with_reducible apply And.intro
          | exact trivial
          | exact rfl
          | assumption
    · rintro ⟨y, ky⟩ ⟨hy, hky⟩
      dsimp only at hy hky ⊢
      obtain ⟨s1, s2⟩ := bit 0 y (by omega) (by rw [hf]; rfl) hy
      refine ⟨s1, fun ys hys => ⟨(s2 ys hys).1, fun n k' hn hk' z hz => ?_⟩⟩
      obtain ⟨st', r1, r2, r3⟩ := (s2 ys hys).2 n k' hn hk' z hz
      refine ⟨⟨z, n, k', c ++ ys⟩, ⟨r1, _, st'.he, st'.l, st'.k, rfl, r2⟩, r3, ?_, ?_⟩
      all_goals
        have q0 := st'.he.flat
        repeat' first
          | with_reducible apply And.intro
          | exact trivial
          | exact rfl
          | assumption
  -- the third part
  have ei2 : i.toNat = x.gone.length := by omega
  intro z45 e45 z46 e46
  rw [wrap_u64] at e46
  have ez46 : z46.toNat = a.s3.l := by omega
  refine ⟨⟨trivial, ⟨by omega, by omega⟩, trivial⟩, ⟨⟨rfl, trivial⟩, trivial⟩, ?_, trivial⟩
  rintro ⟨y2, ky2⟩ ⟨hy2, hk2⟩
  dsimp only at hy2 hk2 ⊢
  rw [ez46] at hy2
  have n2 := num_len10 (n := a.s3.l) (by omega)
  obtain ⟨s1, s2⟩ := st.app hy2 (by omega)
  refine ⟨s1, fun ys hys => ⟨(s2 ys hys).1, fun n k' hn hk' => ?_⟩⟩
  have st1 := (s2 ys hys).2 n k' hn hk'
  clear s1 s2
  refine ⟨⟨0, n, k', c ++ ys⟩, ⟨⟨by show (0 : Int) ≤ 0; decide, by show (0 : Int) ≤ _; omega⟩, _, st1.he, st1.l, st1.k, ?_, ?_⟩, ?_, ?_⟩
  · show _ = enc3 x a.s3.l 0
    rw [enc3_zero, hbs, ei2]
  · show _ ≤ (1500 : Int) + 10 * 0
    simp; omega
  · have q0 := st1.he.flat
    repeat' first
      | with_reducible apply And.intro
      | exact trivial
      | exact rfl
      | assumption
  clear st st1 hbs hbl hc hl hk hn hk' hys
  rintro ⟨i, l, k, c⟩ ⟨⟨hi0, hi1⟩, bs, hc, hl, hk, hbs, hbl⟩ z55 e55
  dsimp only at hi0 hi1 hc hl hk hbs hbl ⊢
  have st : Sb c l k bs := ⟨hc, hl, hk⟩
  refine ⟨fun hlt => ?_, fun hge => ?_⟩
  · have rd : ∀ j, j < 8 → 8 * i.toNat + j < x.tips.length := fun j hj => by omega
    have ac : ∀ (p j : Nat) (hj : j < 8), p = a.s3.o + i.toNat * 8 → Rd a.s3.c (Nat.add p j) (.int .u8 (x.tips[8 * i.toNat + j]'(rd j hj))) := fun p j hj hp => by
      have := hx.p3.at_.get (rd j hj)
      rw [show a.s3.o + (8 * i.toNat + j) = Nat.add p j by rw [hp]; show _ = a.s3.o + i.toNat * 8 + j; omega] at this
      exact this
    refine ⟨⟨hi0, by omega⟩, fun p hp => ⟨_, ac p 0 (by omega) hp, _, ac p 1 (by omega) hp, _, ac p 2 (by omega) hp, _, ac p 3 (by omega) hp, _, ac p 4 (by omega) hp, _, ac p 5 (by omega) hp, _, ac p 6 (by omega) hp, _, ac p 7 (by omega) hp, ⟨trivial, trivial⟩, ⟨⟨⟨rfl, rfl, rfl, rfl, rfl, rfl, rfl, rfl, trivial⟩, trivial⟩, trivial⟩, fun _ _ => ⟨⟨trivial, dnum_in _, trivial⟩, ⟨⟨rfl, trivial⟩, trivial⟩, ?_, trivial⟩, trivial⟩⟩
    rintro ⟨y, ky⟩ ⟨hy, hky⟩
    dsimp only at hy hky ⊢
    obtain ⟨D, hD1, hD2, hD3⟩ : ∃ D, dnum [x.tips[8 * i.toNat + 0]'(rd 0 (by omega)), x.tips[8 * i.toNat + 1]'(rd 1 (by omega)), x.tips[8 * i.toNat + 2]'(rd 2 (by omega)), x.tips[8 * i.toNat + 3]'(rd 3 (by omega)), x.tips[8 * i.toNat + 4]'(rd 4 (by omega)), x.tips[8 * i.toNat + 5]'(rd 5 (by omega)), x.tips[8 * i.toNat + 6]'(rd 6 (by omega)), x.tips[8 * i.toNat + 7]'(rd 7 (by omega))] = D ∧ (0 ≤ D ∧ D < 18446744073709551616) ∧ enc3 x a.s3.l (i.toNat + 1) = enc3 x a.s3.l i.toNat ++ num D.toNat :=
      ⟨_, rfl, dnum_in _, by rw [enc3_succ, getD_get (i := 8 * i.toNat) (rd 0 (by omega)), getD_get (rd 1 (by omega)), getD_get (rd 2 (by omega)), getD_get (rd 3 (by omega)), getD_get (rd 4 (by omega)), getD_get (rd 5 (by omega)), getD_get (rd 6 (by omega)), getD_get (rd 7 (by omega))]; rfl⟩
    rw [hD1] at hy
    have ny := num_len10 (n := D.toNat) (by omega)
    obtain ⟨s1, s2⟩ := st.app hy (by omega)
    refine ⟨s1, fun ys hys => ⟨(s2 ys hys).1, fun n k' hn hk' z70 e70 => ?_⟩⟩
    have st' := (s2 ys hys).2 n k' hn hk'
    rw [wrap_i64] at e70
    have ei : z70.toNat = i.toNat + 1 := by omega
    refine ⟨⟨z70, n, k', c ++ ys⟩, ⟨⟨by show 0 ≤ z70; omega, by show z70 ≤ _; omega⟩, _, st'.he, st'.l, st'.k, ?_, ?_⟩, by show ((a.s3.l : Int) - z70).toNat < ((a.s3.l : Int) - i).toNat; omega, ?_, ?_⟩
    · show _ = enc3 x a.s3.l z70.toNat
      rw [ei, hD3, hbs]
    · show _ ≤ (1500 : Int) + 10 * z70
      simp; omega
    all_goals
      have q0 := st'.he.flat
      repeat' first
        | with_reducible apply And.intro
        | exact trivial
        | exact rfl
        | assumption
  -- the roll
  have ei3 : i.toNat = a.s3.l := by omega
  have m0 := num_len10 (n := (foldI a.r0).toNat) (by have := fold_in hw.r0; omega)
  have m1 := num_len10 (n := (foldI a.r1).toNat) (by have := fold_in hw.r1; omega)
  have m2 := num_len10 (n := (foldI a.r2).toNat) (by have := fold_in hw.r2; omega)
  have m3 := num_len10 (n := (foldI a.r3).toNat) (by have := fold_in hw.r3; omega)
  have m4 := num_len10 (n := a.r4.toNat) (by have := hw.r4; omega)
  refine ⟨⟨trivial, hw.r0, trivial⟩, ⟨⟨rfl, trivial⟩, trivial⟩, ?_, trivial⟩
  rintro ⟨y, ky⟩ ⟨hy, hky⟩
  dsimp only at hy hky ⊢
  obtain ⟨s1, s2⟩ := st.app hy (by omega)
  refine ⟨s1, fun ys hys => ⟨(s2 ys hys).1, fun n k' hn hk' => ?_⟩⟩
  have t1 := (s2 ys hys).2 n k' hn hk'
  clear s1 s2 hy hky hys
  refine ⟨⟨trivial, hw.r1, trivial⟩, ⟨⟨rfl, trivial⟩, trivial⟩, ?_, trivial⟩
  rintro ⟨y, ky⟩ ⟨hy, hky⟩
  dsimp only at hy hky ⊢
  obtain ⟨s1, s2⟩ := t1.app hy (by simp; omega)
  refine ⟨s1, fun ys hys => ⟨(s2 ys hys).1, fun n k' hn hk' => ?_⟩⟩
  have t2 := (s2 ys hys).2 n k' hn hk'
  clear s1 s2 hy hky hys
  refine ⟨?_, ?_⟩
  · repeat' first
      | with_reducible apply And.intro
      | exact trivial
      | exact rfl
  refine ⟨⟨trivial, hw.r2, trivial⟩, ⟨⟨rfl, trivial⟩, trivial⟩, ?_, trivial⟩
  rintro ⟨y, ky⟩ ⟨hy, hky⟩
  dsimp only at hy hky ⊢
  obtain ⟨s1, s2⟩ := t2.app hy (by simp; omega)
  refine ⟨s1, fun ys hys => ⟨(s2 ys hys).1, fun n k' hn hk' => ?_⟩⟩
  have t3 := (s2 ys hys).2 n k' hn hk'
  clear s1 s2 hy hky hys
  refine ⟨⟨trivial, hw.r3, trivial⟩, ⟨⟨rfl, trivial⟩, trivial⟩, ?_, trivial⟩
  rintro ⟨y, ky⟩ ⟨hy, hky⟩
  dsimp only at hy hky ⊢
  obtain ⟨s1, s2⟩ := t3.app hy (by simp; omega)
  refine ⟨s1, fun ys hys => ⟨(s2 ys hys).1, fun n k' hn hk' => ?_⟩⟩
  have t4 := (s2 ys hys).2 n k' hn hk'
  clear s1 s2 hy hky hys
  refine ⟨?_, ?_⟩
  · repeat' first
      | with_reducible apply And.intro
      | exact trivial
      | exact rfl
  refine ⟨⟨trivial, hw.r4, trivial⟩, ⟨⟨rfl, trivial⟩, trivial⟩, ?_, trivial⟩
  rintro ⟨y, ky⟩ ⟨hy, hky⟩
  dsimp only at hy hky ⊢
  obtain ⟨s1, s2⟩ := t4.app hy (by simp; omega)
  refine ⟨s1, fun ys hys => ⟨(s2 ys hys).1, fun n k' hn hk' => ?_⟩⟩
  have t5 := (s2 ys hys).2 n k' hn hk'
  clear s1 s2 hy hky hys
  have eb : bs ++ num (foldI a.r0).toNat ++ num (foldI a.r1).toNat ++ num (foldI a.r2).toNat ++ num (foldI a.r3).toNat ++ num a.r4.toNat = enc a x := by
    simp [enc, encR, hbs, ei3]
  rw [eb] at t5
  have hlen : (enc a x).length ≤ 2000 := by rw [← eb]; simp; omega
  have tl := t5.he.len
  refine ⟨⟨k', _⟩, fun y hy => ?_, ⟨rfl, tl.trans t5.l.symm, rfl⟩, ⟨rfl, t5.he.flat, rfl⟩, trivial⟩
  obtain rfl := hx.uniq hy
  exact ⟨t5.he, by rw [tl]; exact t5.k, by rw [tl]; exact hlen⟩
theorem s_enc : SpecOK Tryz.prog S_enc.spec := fun a K hp hq => by
  obtain ⟨⟨x, hx, hw⟩, b1, b2, b3⟩ := hp
  exact specD_at (an := an_enc a x) envOK (cwD_ok s_num (cwD_ok s_signed (cwD_ok s_dnum cw0_ok))) (fun _ => g_enc a x hx hw b1 b2 b3) K ⟨⟨x, hx, hw⟩, b1, b2, b3⟩ hq
end Go.Proofs.YtalbjjimnhldfaaGreatDoor
