/- The program's bytes of a position: what is told of Encode (what is to be shown). -/
import Derived.Test.YtalbjjimnhldfaaGreatDoorYmv
section
set_option maxRecDepth 100000
namespace Go.Proofs.YtalbjjimnhldfaaGreatDoor
open Go.Ev
-- keep num foldI dnum encV encG encT enc1 enc2 enc3 enc Go.Ev.Sli PH PW OwB Byts8
noncomputable section
def S_encP : SpecD where
  f := 26
  α := PA
  args a := [a.v 12]
  R a := a.R 12 29
  n := 12 + 3
  pre a := (∃ x, PH a x ∧ PW a x ∧ Byts8 x.tips) ∧ (a.s1.l ≤ 100 ∧ a.s2.l ≤ 100 ∧ a.s3.l ≤ 100)
  outs := [⟨OW, fun a b => b.k ≤ 4000 ∧ ∀ x, PH a x → OwB b (enc a x), fun _ b => tgS (12 + 3) 0 b.l b.k, fun _ b => [(12 + 3, .f b.c 5 .own)], fun _ _ => 12 + 4, fun v _ => renS (12 + 3) v⟩]
  pick _ _ := 0
  find l A := some (paOf A (agv (lv l 0)), paN 12 (agv (lv l 0)))
def la_p (a : PA) (t : Nat) (sv : Value) (lim b0 : Nat) (f : Nat → List Int) : LA where
  α := EM
  at_ e := ⟨[(1, .pointer (some ⟨12 + 3, 0, none⟩)), (3, tgS (12 + 4) 0 e.b.l e.b.k), (t, sv), (t + 1, tgI .i64 lim), (t + 2, tgI .i64 e.i)],
    (12 + 3, .p (.row (a.s1.v 12 :: a.s2.v (12 + 1) :: a.s3.v (12 + 2) :: rolls a) 37 .own)) :: (12 + 4, .f e.b.c 5 .own) :: a.R 12 29, 12 + 5⟩
  J e := (0 ≤ e.i ∧ e.i ≤ lim) ∧ OwB e.b (f e.i.toNat) ∧ (e.b.l : Int) ≤ b0 + 10 * e.i ∧ (e.b.k : Int) ≤ b0 + 10 + 10 * e.i
  μ e := (lim - e.i).toNat
  ren s := renP (12 + 3) (tv s 1) ++ renS (12 + 4) (tv s 3)
def an_encP (a : PA) (x : PX) : Anns := [some (la_p a 19 (a.s1.v 12) a.s1.l 10 (enc1 x)), some (la_p a 37 (a.s2.v (12 + 1)) a.s2.l 1020 (enc2 x)), some (la_p a 55 (a.s3.v (12 + 2)) a.s3.l 2030 (enc3 x a.s3.l)), none]
def cwEncP : CW := cwD Tryz.prog S_putn (cwD Tryz.prog S_puti (cwD Tryz.prog S_hnum cw0))
def G_encP (a : PA) (x : PX) : Prop := fnW Tryz.prog E0 cwEncP (an_encP a x) S_encP.f (S_encP.args a) (mem (S_encP.R a) S_encP.n) (endD Tryz.prog S_encP a)
end
end Go.Proofs.YtalbjjimnhldfaaGreatDoor
end

/- The program's bytes of a position: what is told of Encode is so. -/
section
set_option maxRecDepth 100000
namespace Go.Proofs.YtalbjjimnhldfaaGreatDoor
open Go.Ev
set_option maxHeartbeats 3200000 in
theorem vc_encP (a : PA) (x : PX) : G_encP a x = (∀ (x0 : Int), x0 = (↑a.1.3 : Int) → ∀ x1, x1 = IntKind.wrap .u64 x0 → (True ∧ (∃ (x2 : List Int), SB true (nat_lit 0) (nat_lit 0) (nat_lit 0) [] x2) ∧ nat_lit 0 ≤ 900000 ∧ (0 :
Int) ≤ x1 ∧ x1 < (18446744073709551616 : Int)) ∧ (((true = true ∧ nat_lit 0 = 0 ∧ nat_lit 0 = 0) ∧ x1 = x1 ∧ True) ∧ (FlatL [] ∧ True) ∧ True) ∧ (∀ (x3 : OW), (x3.2 = nat_lit 0 +
10 ∧ ∀ (x4 : List Int), SB true (nat_lit 0) (nat_lit 0) (nat_lit 0) [] x4 → OwB x3 (x4 ++ num (Int.toNat x1))) → ∀ (x5 : Int), x5 = (↑a.1.3 : Int) → ∃ (x6 : EM), ((0 ≤ x6.1 ∧ x6.1
≤ (↑a.1.3 : Int)) ∧ OwB x6.2 (enc1 x (Int.toNat x6.1)) ∧ (↑x6.2.1 : Int) ≤ (10 : Int) + (10 : Int) * x6.1 ∧ (↑x6.2.2 : Int) ≤ (20 : Int) + (10 : Int) * x6.1) ∧ ((0 = 0 ∧ (0 = 0 ∧
x6.2.1 = x3.1 ∧ x6.2.2 = x3.2) ∧ Z4 a.1 ∧ (↑a.1.3 : Int) = x5 ∧ x6.1 = 0 ∧ True) ∧ ((True ∧ Z4 a.1 ∧ Z4 a.2 ∧ Z4 a.3 ∧ ZR a) ∧ (True ∧ FlatL x6.2.3 ∧ x6.2.3 = x3.3) ∧ ZF a.1.5 ∧ ZF
a.2.5 ∧ ZF a.3.5 ∧ True) ∧ True) ∧ ∀ (x7 : EM), (0 ≤ x7.1 ∧ x7.1 ≤ (↑a.1.3 : Int)) ∧ OwB x7.2 (enc1 x (Int.toNat x7.1)) ∧ (↑x7.2.1 : Int) ≤ (10 : Int) + (10 : Int) * x7.1 ∧
(↑x7.2.2 : Int) ≤ (20 : Int) + (10 : Int) * x7.1 → (x7.1 < (↑a.1.3 : Int) → (0 ≤ x7.1 ∧ x7.1 < (↑a.1.3 : Int)) ∧ ∀ (x8 : Nat), x8 = a.1.2 + Int.toNat x7.1 * 1 → ∃ (x9 : Int), Rd
a.1.5 (Nat.add x8 0) (Value.int IntKind.i32 x9) ∧ ∀ x10, x10 = IntKind.wrap .i64 x9 → (True ∧ (∃ (x11 : List Int), SB false (nat_lit 0) x7.2.1 x7.2.2 x7.2.3 x11) ∧ x7.2.1 ≤ 900000
∧ (-9223372036854775808 : Int) ≤ x10 ∧ x10 ≤ (9223372036854775807 : Int)) ∧ (((false = false ∧ nat_lit 0 = 0 ∧ x7.2.1 = x7.2.1 ∧ x7.2.2 = x7.2.2) ∧ x10 = x10 ∧ True) ∧ ZF x7.2.3 ∧
True) ∧ (∀ (x12 : OW), (x12.2 = x7.2.1 + 10 ∧ ∀ (x13 : List Int), SB false (nat_lit 0) x7.2.1 x7.2.2 x7.2.3 x13 → OwB x12 (x13 ++ num (Int.toNat (foldI x10)))) → ∀ x14, x14 =
IntKind.wrap .i64 (x7.1 + (1 : Int)) → ∃ (x15 : EM), ((0 ≤ x15.1 ∧ x15.1 ≤ (↑a.1.3 : Int)) ∧ OwB x15.2 (enc1 x (Int.toNat x15.1)) ∧ (↑x15.2.1 : Int) ≤ (10 : Int) + (10 : Int) *
x15.1 ∧ (↑x15.2.2 : Int) ≤ (20 : Int) + (10 : Int) * x15.1) ∧ Int.toNat ((↑a.1.3 : Int) - x15.1) < Int.toNat ((↑a.1.3 : Int) - x7.1) ∧ (0 = 0 ∧ (0 = 0 ∧ x15.2.1 = x12.1 ∧ x15.2.2 =
x12.2) ∧ Z4 a.1 ∧ (↑a.1.3 : Int) = (↑a.1.3 : Int) ∧ x15.1 = x14 ∧ True) ∧ ((True ∧ Z4 a.1 ∧ Z4 a.2 ∧ Z4 a.3 ∧ ZR a) ∧ (True ∧ FlatL x15.2.3 ∧ x15.2.3 = x12.3) ∧ ZF a.1.5 ∧ ZF a.2.5
∧ ZF a.3.5 ∧ True) ∧ True) ∧ True) ∧ (¬x7.1 < (↑a.1.3 : Int) → ∀ (x16 : Int), x16 = (↑a.2.3 : Int) → ∀ x17, x17 = IntKind.wrap .u64 x16 → (True ∧ (∃ (x18 : List Int), SB false
(nat_lit 0) x7.2.1 x7.2.2 x7.2.3 x18) ∧ x7.2.1 ≤ 900000 ∧ (0 : Int) ≤ x17 ∧ x17 < (18446744073709551616 : Int)) ∧ (((false = false ∧ nat_lit 0 = 0 ∧ x7.2.1 = x7.2.1 ∧ x7.2.2 =
x7.2.2) ∧ x17 = x17 ∧ True) ∧ ZF x7.2.3 ∧ True) ∧ (∀ (x19 : OW), (x19.2 = x7.2.1 + 10 ∧ ∀ (x20 : List Int), SB false (nat_lit 0) x7.2.1 x7.2.2 x7.2.3 x20 → OwB x19 (x20 ++ num
(Int.toNat x17))) → ∀ (x21 : Int), x21 = (↑a.2.3 : Int) → ∃ (x22 : EM), ((0 ≤ x22.1 ∧ x22.1 ≤ (↑a.2.3 : Int)) ∧ OwB x22.2 (enc2 x (Int.toNat x22.1)) ∧ (↑x22.2.1 : Int) ≤ (1020 :
Int) + (10 : Int) * x22.1 ∧ (↑x22.2.2 : Int) ≤ (1030 : Int) + (10 : Int) * x22.1) ∧ ((0 = 0 ∧ (0 = 0 ∧ x22.2.1 = x19.1 ∧ x22.2.2 = x19.2) ∧ Z4 a.2 ∧ (↑a.2.3 : Int) = x21 ∧ x22.1 =
0 ∧ True) ∧ ((True ∧ Z4 a.1 ∧ Z4 a.2 ∧ Z4 a.3 ∧ ZR a) ∧ (True ∧ FlatL x22.2.3 ∧ x22.2.3 = x19.3) ∧ ZF a.1.5 ∧ ZF a.2.5 ∧ ZF a.3.5 ∧ True) ∧ True) ∧ ∀ (x23 : EM), (0 ≤ x23.1 ∧ x23.1
≤ (↑a.2.3 : Int)) ∧ OwB x23.2 (enc2 x (Int.toNat x23.1)) ∧ (↑x23.2.1 : Int) ≤ (1020 : Int) + (10 : Int) * x23.1 ∧ (↑x23.2.2 : Int) ≤ (1030 : Int) + (10 : Int) * x23.1 → (x23.1 <
(↑a.2.3 : Int) → (0 ≤ x23.1 ∧ x23.1 < (↑a.2.3 : Int)) ∧ ∀ (x24 : Nat), x24 = a.2.2 + Int.toNat x23.1 * 1 → ∃ (x25 : Bool), Rd a.2.5 (Nat.add x24 0) (Value.bool x25) ∧ (x25 = true →
(True ∧ (∃ (x26 : List Int), SB false (nat_lit 0) x23.2.1 x23.2.2 x23.2.3 x26) ∧ x23.2.1 ≤ 900000 ∧ (0 : Int) ≤ Int.ofNat 1 ∧ Int.ofNat 1 < (18446744073709551616 : Int)) ∧ (((false
= false ∧ nat_lit 0 = 0 ∧ x23.2.1 = x23.2.1 ∧ x23.2.2 = x23.2.2) ∧ Int.ofNat 1 = (1 : Int) ∧ True) ∧ ZF x23.2.3 ∧ True) ∧ (∀ (x27 : OW), (x27.2 = x23.2.1 + 10 ∧ ∀ (x28 : List Int),
SB false (nat_lit 0) x23.2.1 x23.2.2 x23.2.3 x28 → OwB x27 (x28 ++ num (Int.toNat (Int.ofNat 1)))) → ∀ x29, x29 = IntKind.wrap .i64 (x23.1 + (1 : Int)) → ∃ (x30 : EM), ((0 ≤ x30.1
∧ x30.1 ≤ (↑a.2.3 : Int)) ∧ OwB x30.2 (enc2 x (Int.toNat x30.1)) ∧ (↑x30.2.1 : Int) ≤ (1020 : Int) + (10 : Int) * x30.1 ∧ (↑x30.2.2 : Int) ≤ (1030 : Int) + (10 : Int) * x30.1) ∧
Int.toNat ((↑a.2.3 : Int) - x30.1) < Int.toNat ((↑a.2.3 : Int) - x23.1) ∧ (0 = 0 ∧ (0 = 0 ∧ x30.2.1 = x27.1 ∧ x30.2.2 = x27.2) ∧ Z4 a.2 ∧ (↑a.2.3 : Int) = (↑a.2.3 : Int) ∧ x30.1 =
x29 ∧ True) ∧ ((True ∧ Z4 a.1 ∧ Z4 a.2 ∧ Z4 a.3 ∧ ZR a) ∧ (True ∧ FlatL x30.2.3 ∧ x30.2.3 = x27.3) ∧ ZF a.1.5 ∧ ZF a.2.5 ∧ ZF a.3.5 ∧ True) ∧ True) ∧ True) ∧ (x25 = false → (True ∧
(∃ (x31 : List Int), SB false (nat_lit 0) x23.2.1 x23.2.2 x23.2.3 x31) ∧ x23.2.1 ≤ 900000 ∧ (0 : Int) ≤ Int.ofNat 0 ∧ Int.ofNat 0 < (18446744073709551616 : Int)) ∧ (((false = false
∧ nat_lit 0 = 0 ∧ x23.2.1 = x23.2.1 ∧ x23.2.2 = x23.2.2) ∧ Int.ofNat 0 = (0 : Int) ∧ True) ∧ ZF x23.2.3 ∧ True) ∧ (∀ (x32 : OW), (x32.2 = x23.2.1 + 10 ∧ ∀ (x33 : List Int), SB
false (nat_lit 0) x23.2.1 x23.2.2 x23.2.3 x33 → OwB x32 (x33 ++ num (Int.toNat (Int.ofNat 0)))) → ∀ x34, x34 = IntKind.wrap .i64 (x23.1 + (1 : Int)) → ∃ (x35 : EM), ((0 ≤ x35.1 ∧
x35.1 ≤ (↑a.2.3 : Int)) ∧ OwB x35.2 (enc2 x (Int.toNat x35.1)) ∧ (↑x35.2.1 : Int) ≤ (1020 : Int) + (10 : Int) * x35.1 ∧ (↑x35.2.2 : Int) ≤ (1030 : Int) + (10 : Int) * x35.1) ∧
Int.toNat ((↑a.2.3 : Int) - x35.1) < Int.toNat ((↑a.2.3 : Int) - x23.1) ∧ (0 = 0 ∧ (0 = 0 ∧ x35.2.1 = x32.1 ∧ x35.2.2 = x32.2) ∧ Z4 a.2 ∧ (↑a.2.3 : Int) = (↑a.2.3 : Int) ∧ x35.1 =
x34 ∧ True) ∧ ((True ∧ Z4 a.1 ∧ Z4 a.2 ∧ Z4 a.3 ∧ ZR a) ∧ (True ∧ FlatL x35.2.3 ∧ x35.2.3 = x32.3) ∧ ZF a.1.5 ∧ ZF a.2.5 ∧ ZF a.3.5 ∧ True) ∧ True) ∧ True)) ∧ (¬x23.1 < (↑a.2.3 :
Int) → ∀ (x36 : Int), x36 = (↑a.3.3 : Int) → ∀ x37, x37 = IntKind.wrap .u64 x36 → (True ∧ (∃ (x38 : List Int), SB false (nat_lit 0) x23.2.1 x23.2.2 x23.2.3 x38) ∧ x23.2.1 ≤ 900000
∧ (0 : Int) ≤ x37 ∧ x37 < (18446744073709551616 : Int)) ∧ (((false = false ∧ nat_lit 0 = 0 ∧ x23.2.1 = x23.2.1 ∧ x23.2.2 = x23.2.2) ∧ x37 = x37 ∧ True) ∧ ZF x23.2.3 ∧ True) ∧ (∀
(x39 : OW), (x39.2 = x23.2.1 + 10 ∧ ∀ (x40 : List Int), SB false (nat_lit 0) x23.2.1 x23.2.2 x23.2.3 x40 → OwB x39 (x40 ++ num (Int.toNat x37))) → ∀ (x41 : Int), x41 = (↑a.3.3 :
Int) → ∃ (x42 : EM), ((0 ≤ x42.1 ∧ x42.1 ≤ (↑a.3.3 : Int)) ∧ OwB x42.2 (enc3 x a.3.3 (Int.toNat x42.1)) ∧ (↑x42.2.1 : Int) ≤ (2030 : Int) + (10 : Int) * x42.1 ∧ (↑x42.2.2 : Int) ≤
(2040 : Int) + (10 : Int) * x42.1) ∧ ((0 = 0 ∧ (0 = 0 ∧ x42.2.1 = x39.1 ∧ x42.2.2 = x39.2) ∧ Z4 a.3 ∧ (↑a.3.3 : Int) = x41 ∧ x42.1 = 0 ∧ True) ∧ ((True ∧ Z4 a.1 ∧ Z4 a.2 ∧ Z4 a.3 ∧
ZR a) ∧ (True ∧ FlatL x42.2.3 ∧ x42.2.3 = x39.3) ∧ ZF a.1.5 ∧ ZF a.2.5 ∧ ZF a.3.5 ∧ True) ∧ True) ∧ ∀ (x43 : EM), (0 ≤ x43.1 ∧ x43.1 ≤ (↑a.3.3 : Int)) ∧ OwB x43.2 (enc3 x a.3.3
(Int.toNat x43.1)) ∧ (↑x43.2.1 : Int) ≤ (2030 : Int) + (10 : Int) * x43.1 ∧ (↑x43.2.2 : Int) ≤ (2040 : Int) + (10 : Int) * x43.1 → (x43.1 < (↑a.3.3 : Int) → (0 ≤ x43.1 ∧ x43.1 <
(↑a.3.3 : Int)) ∧ ∀ (x44 : Nat), x44 = a.3.2 + Int.toNat x43.1 * 8 → ∃ (x45 : Int), Rd a.3.5 (Nat.add x44 0) (Value.int IntKind.u8 x45) ∧ ∃ (x46 : Int), Rd a.3.5 (Nat.add x44 1)
(Value.int IntKind.u8 x46) ∧ ∃ (x47 : Int), Rd a.3.5 (Nat.add x44 2) (Value.int IntKind.u8 x47) ∧ ∃ (x48 : Int), Rd a.3.5 (Nat.add x44 3) (Value.int IntKind.u8 x48) ∧ ∃ (x49 :
Int), Rd a.3.5 (Nat.add x44 4) (Value.int IntKind.u8 x49) ∧ ∃ (x50 : Int), Rd a.3.5 (Nat.add x44 5) (Value.int IntKind.u8 x50) ∧ ∃ (x51 : Int), Rd a.3.5 (Nat.add x44 6) (Value.int
IntKind.u8 x51) ∧ ∃ (x52 : Int), Rd a.3.5 (Nat.add x44 7) (Value.int IntKind.u8 x52) ∧ (True ∧ D8.Ok (D8.mk x45 x46 x47 x48 x49 x50 x51 x52) ∧ True) ∧ (((x45 = x45 ∧ x46 = x46 ∧
x47 = x47 ∧ x48 = x48 ∧ x49 = x49 ∧ x50 = x50 ∧ x51 = x51 ∧ x52 = x52 ∧ True) ∧ True) ∧ True) ∧ (∀ (x53 : Unit), True → (True ∧ (∃ (x54 : List Int), SB false (nat_lit 0) x43.2.1
x43.2.2 x43.2.3 x54) ∧ x43.2.1 ≤ 900000 ∧ (0 : Int) ≤ dnum [x45, x46, x47, x48, x49, x50, x51, x52] ∧ dnum [x45, x46, x47, x48, x49, x50, x51, x52] < (18446744073709551616 : Int))
∧ (((false = false ∧ nat_lit 0 = 0 ∧ x43.2.1 = x43.2.1 ∧ x43.2.2 = x43.2.2) ∧ dnum [x45, x46, x47, x48, x49, x50, x51, x52] = dnum [x45, x46, x47, x48, x49, x50, x51, x52] ∧ True)
∧ ZF x43.2.3 ∧ True) ∧ (∀ (x55 : OW), (x55.2 = x43.2.1 + 10 ∧ ∀ (x56 : List Int), SB false (nat_lit 0) x43.2.1 x43.2.2 x43.2.3 x56 → OwB x55 (x56 ++ num (Int.toNat (dnum [x45, x46,
x47, x48, x49, x50, x51, x52])))) → ∀ x57, x57 = IntKind.wrap .i64 (x43.1 + (1 : Int)) → ∃ (x58 : EM), ((0 ≤ x58.1 ∧ x58.1 ≤ (↑a.3.3 : Int)) ∧ OwB x58.2 (enc3 x a.3.3 (Int.toNat
x58.1)) ∧ (↑x58.2.1 : Int) ≤ (2030 : Int) + (10 : Int) * x58.1 ∧ (↑x58.2.2 : Int) ≤ (2040 : Int) + (10 : Int) * x58.1) ∧ Int.toNat ((↑a.3.3 : Int) - x58.1) < Int.toNat ((↑a.3.3 :
Int) - x43.1) ∧ (0 = 0 ∧ (0 = 0 ∧ x58.2.1 = x55.1 ∧ x58.2.2 = x55.2) ∧ Z4 a.3 ∧ (↑a.3.3 : Int) = (↑a.3.3 : Int) ∧ x58.1 = x57 ∧ True) ∧ ((True ∧ Z4 a.1 ∧ Z4 a.2 ∧ Z4 a.3 ∧ ZR a) ∧
(True ∧ FlatL x58.2.3 ∧ x58.2.3 = x55.3) ∧ ZF a.1.5 ∧ ZF a.2.5 ∧ ZF a.3.5 ∧ True) ∧ True) ∧ True) ∧ True) ∧ (¬x43.1 < (↑a.3.3 : Int) → (True ∧ (∃ (x59 : List Int), SB false
(nat_lit 0) x43.2.1 x43.2.2 x43.2.3 x59) ∧ x43.2.1 ≤ 900000 ∧ -9223372036854775808 ≤ a.4 ∧ a.4 ≤ 9223372036854775807) ∧ (((false = false ∧ nat_lit 0 = 0 ∧ x43.2.1 = x43.2.1 ∧
x43.2.2 = x43.2.2) ∧ a.4 = a.4 ∧ True) ∧ ZF x43.2.3 ∧ True) ∧ (∀ (x60 : OW), (x60.2 = x43.2.1 + 10 ∧ ∀ (x61 : List Int), SB false (nat_lit 0) x43.2.1 x43.2.2 x43.2.3 x61 → OwB x60
(x61 ++ num (Int.toNat (foldI a.4)))) → (True ∧ (∃ (x62 : List Int), SB false (nat_lit 0) x60.1 x60.2 x60.3 x62) ∧ x60.1 ≤ 900000 ∧ -9223372036854775808 ≤ a.5 ∧ a.5 ≤
9223372036854775807) ∧ (((false = false ∧ nat_lit 0 = 0 ∧ x60.1 = x60.1 ∧ x60.2 = x60.2) ∧ a.5 = a.5 ∧ True) ∧ ZF x60.3 ∧ True) ∧ (∀ (x63 : OW), (x63.2 = x60.1 + 10 ∧ ∀ (x64 : List
Int), SB false (nat_lit 0) x60.1 x60.2 x60.3 x64 → OwB x63 (x64 ++ num (Int.toNat (foldI a.5)))) → (True ∧ (∃ (x65 : List Int), SB false (nat_lit 0) x63.1 x63.2 x63.3 x65) ∧ x63.1
≤ 900000 ∧ -9223372036854775808 ≤ a.6 ∧ a.6 ≤ 9223372036854775807) ∧ (((false = false ∧ nat_lit 0 = 0 ∧ x63.1 = x63.1 ∧ x63.2 = x63.2) ∧ a.6 = a.6 ∧ True) ∧ ZF x63.3 ∧ True) ∧ (∀
(x66 : OW), (x66.2 = x63.1 + 10 ∧ ∀ (x67 : List Int), SB false (nat_lit 0) x63.1 x63.2 x63.3 x67 → OwB x66 (x67 ++ num (Int.toNat (foldI a.6)))) → (True ∧ (∃ (x68 : List Int), SB
false (nat_lit 0) x66.1 x66.2 x66.3 x68) ∧ x66.1 ≤ 900000 ∧ -9223372036854775808 ≤ a.7 ∧ a.7 ≤ 9223372036854775807) ∧ (((false = false ∧ nat_lit 0 = 0 ∧ x66.1 = x66.1 ∧ x66.2 =
x66.2) ∧ a.7 = a.7 ∧ True) ∧ ZF x66.3 ∧ True) ∧ (∀ (x69 : OW), (x69.2 = x66.1 + 10 ∧ ∀ (x70 : List Int), SB false (nat_lit 0) x66.1 x66.2 x66.3 x70 → OwB x69 (x70 ++ num (Int.toNat
(foldI a.7)))) → (True ∧ (∃ (x71 : List Int), SB false (nat_lit 0) x69.1 x69.2 x69.3 x71) ∧ x69.1 ≤ 900000 ∧ 0 ≤ a.8 ∧ a.8 < 18446744073709551616) ∧ (((false = false ∧ nat_lit 0 =
0 ∧ x69.1 = x69.1 ∧ x69.2 = x69.2) ∧ a.8 = a.8 ∧ True) ∧ ZF x69.3 ∧ True) ∧ (∀ (x72 : OW), (x72.2 = x69.1 + 10 ∧ ∀ (x73 : List Int), SB false (nat_lit 0) x69.1 x69.2 x69.3 x73 →
OwB x72 (x73 ++ num (Int.toNat a.8))) → ∃ (x74 : OW), (x74.2 ≤ 4000 ∧ ∀ (x75 : PX), PH a x75 → OwB x74 (enc a x75)) ∧ (0 = 0 ∧ x74.1 = x72.1 ∧ x74.2 = x72.2) ∧ (True ∧ FlatL x74.3
∧ x74.3 = x72.3) ∧ True) ∧ True) ∧ True) ∧ True) ∧ True) ∧ True)) ∧ True)) ∧ True)) ∧ True) := by kernel_rfl
theorem putB {b b' : OW} {bs : List Int} {n : Nat} (h : OwB b bs) (hn : n < 18446744073709551616) (g : b'.k = b.l + 10 ∧ ∀ ys : List Int, Sli (Value.int .u8) 1 false 0 b.l b.k b.c ys → OwB b' (ys ++ num n)) : OwB b' (bs ++ num n) ∧ b'.l ≤ b.l + 10 ∧ b'.k = b.l + 10 := by
  have q := g.2 _ h.sli
  have h1 := q.l
  have h2 := h.l
  have h3 := num_len10 hn
  rw [List.length_append] at h1
  exact ⟨q, by omega, g.1⟩
theorem g_encP (a : PA) (x : PX) (hx : PH a x) (hw : PW a x) (h8 : Byts8 x.tips) (b1 : a.s1.l ≤ 100) (b2 : a.s2.l ≤ 100) (b3 : a.s3.l ≤ 100) : G_encP a x := by
  have l1 : x.vars.length = a.s1.l := by have := hx.p1.len; omega
  have l2 : x.gone.length = a.s2.l := by have := hx.p2.len; omega
  have l3 : x.tips.length = a.s3.l * 8 := hx.p3.len
  have f1 := hx.p1.flat
  have f2 := hx.p2.flat
  have f3 := hx.p3.flat
  rw [vc_encP]
  intro z0 e0 z1 e1
  rw [wrap_u64] at e1
  have ez : z1.toNat = x.vars.length := by omega
  refine ⟨⟨trivial, ⟨[], .none⟩, by decide, by omega, by omega⟩, ⟨⟨⟨rfl, rfl, rfl⟩, rfl, trivial⟩, ⟨flatL_nil, trivial⟩, trivial⟩, fun y0 ⟨k0, q0⟩ z5 e5 => ?_, trivial⟩
  have k0 : y0.k = 10 := k0
  have q0 := q0 [] .none
  rw [ez, List.nil_append, ← enc1_zero] at q0
  have n0 : (enc1 x 0).length ≤ 10 := by rw [enc1_zero]; exact num_len10 (by omega)
  have n1 := q0.l
  have g0 := q0.flat
  refine ⟨⟨0, y0⟩, ⟨⟨by show (0 : Int) ≤ 0; decide, by show (0 : Int) ≤ _; omega⟩, q0, by show (y0.l : Int) ≤ 10 + 10 * 0; omega, by show (y0.k : Int) ≤ 20 + 10 * 0; omega⟩, ?_, ?_⟩
  · repeat' first
      | with_reducible apply And.intro
      | exact trivial
      | exact rfl
      | assumption
      | (exact e5.symm)
  clear q0 n0 n1 g0
  rintro ⟨i, b⟩ ⟨⟨hi0, hi1⟩, hb, hbl, hbk⟩
  dsimp only at hi0 hi1 hb hbl hbk ⊢
  refine ⟨fun hlt => ⟨⟨hi0, hlt⟩, fun p hp => ⟨_, Sli.rdD hx.p1 (i := i.toNat) (by omega) hp, fun z10 e10 => ?_⟩⟩, fun hge => ?_⟩
  · have hv := w32_getD hw.v i.toNat
    rw [wrap_sm (by omega)] at e10
    refine ⟨⟨trivial, ⟨_, hb.sli⟩, by omega, by omega, by omega⟩, ⟨⟨⟨rfl, rfl, rfl, rfl⟩, rfl, trivial⟩, ⟨trivial, hb.flat, rfl⟩, trivial⟩, fun b' q z hz => ?_, trivial⟩
    obtain ⟨q, ql, qk⟩ := putB hb (by have := fold_in (a := z10) (by omega); omega) q
    rw [wrap_sm (by omega)] at hz
    rw [e10, ← enc1_succ] at q
    have g0 := q.flat
    refine ⟨⟨z, b'⟩, ⟨⟨by show 0 ≤ z; omega, by show z ≤ _; omega⟩, by show OwB b' (enc1 x z.toNat); rw [show z.toNat = i.toNat + 1 by omega]; exact q, by show (b'.l : Int) ≤ 10 + 10 * z; omega, by show (b'.k : Int) ≤ 20 + 10 * z; omega⟩, by show ((a.s1.l : Int) - z).toNat < ((a.s1.l : Int) - i).toNat; omega, ?_⟩
    repeat' first
      | with_reducible apply And.intro
      | exact trivial
      | exact rfl
      | assumption
  have ei : i.toNat = x.vars.length := by omega
  intro z16 e16 z17 e17
  rw [wrap_u64] at e17
  have ez17 : z17.toNat = x.gone.length := by omega
  refine ⟨⟨trivial, ⟨_, hb.sli⟩, by omega, by omega, by omega⟩, ⟨⟨⟨rfl, rfl, rfl, rfl⟩, rfl, trivial⟩, ⟨trivial, hb.flat, rfl⟩, trivial⟩, fun y1 q1 z21 e21 => ?_, trivial⟩
  obtain ⟨q1, ql, qk⟩ := putB hb (by omega) q1
  rw [ez17, ei, ← enc2_zero] at q1
  have g1 := q1.flat
  refine ⟨⟨0, y1⟩, ⟨⟨by show (0 : Int) ≤ 0; decide, by show (0 : Int) ≤ _; omega⟩, q1, by show (y1.l : Int) ≤ 1020 + 10 * 0; omega, by show (y1.k : Int) ≤ 1030 + 10 * 0; omega⟩, ?_, ?_⟩
  · repeat' first
      | with_reducible apply And.intro
      | exact trivial
      | exact rfl
      | assumption
      | (exact e21.symm)
  clear q1 g1 ql qk hb hbl hbk hge hi0 hi1 ei
  rintro ⟨i, b⟩ ⟨⟨hi0, hi1⟩, hb, hbl, hbk⟩
  dsimp only at hi0 hi1 hb hbl hbk ⊢
  refine ⟨fun hlt => ?_, fun hge => ?_⟩
  · have hiv : i.toNat < x.gone.length := by omega
    refine ⟨⟨hi0, hlt⟩, fun p hp => ⟨x.gone[i.toNat], by rw [hp, Nat.mul_one]; exact hx.p2.at_.get hiv, fun ht => ?_, fun hf => ?_⟩⟩
    · refine ⟨⟨trivial, ⟨_, hb.sli⟩, by omega, by decide, by decide⟩, ⟨⟨⟨rfl, rfl, rfl, rfl⟩, rfl, trivial⟩, ⟨trivial, hb.flat, rfl⟩, trivial⟩, fun b' q z hz => ?_, trivial⟩
      obtain ⟨q, ql, qk⟩ := putB (n := 1) hb (by decide) q
      rw [wrap_sm (by omega)] at hz
      have ee : enc2 x z.toNat = enc2 x i.toNat ++ num 1 := by rw [show z.toNat = i.toNat + 1 by omega, enc2_succ, getD_getB hiv, ht]; rfl
      have g0 := q.flat
      refine ⟨⟨z, b'⟩, ⟨⟨by show 0 ≤ z; omega, by show z ≤ _; omega⟩, by show OwB b' (enc2 x z.toNat); rw [ee]; exact q, by show (b'.l : Int) ≤ 1020 + 10 * z; omega, by show (b'.k : Int) ≤ 1030 + 10 * z; omega⟩, by show ((a.s2.l : Int) - z).toNat < ((a.s2.l : Int) - i).toNat; omega, ?_⟩
      repeat' first
        | with_reducible apply And.intro
        | exact trivial
        | exact rfl
        | assumption
    · refine ⟨⟨trivial, ⟨_, hb.sli⟩, by omega, by decide, by decide⟩, ⟨⟨⟨rfl, rfl, rfl, rfl⟩, rfl, trivial⟩, ⟨trivial, hb.flat, rfl⟩, trivial⟩, fun b' q z hz => ?_, trivial⟩
      obtain ⟨q, ql, qk⟩ := putB (n := 0) hb (by decide) q
      rw [wrap_sm (by omega)] at hz
      have ee : enc2 x z.toNat = enc2 x i.toNat ++ num 0 := by rw [show z.toNat = i.toNat + 1 by omega, enc2_succ, getD_getB hiv, hf]; rfl
      have g0 := q.flat
      refine ⟨⟨z, b'⟩, ⟨⟨by show 0 ≤ z; omega, by show z ≤ _; omega⟩, by show OwB b' (enc2 x z.toNat); rw [ee]; exact q, by show (b'.l : Int) ≤ 1020 + 10 * z; omega, by show (b'.k : Int) ≤ 1030 + 10 * z; omega⟩, by show ((a.s2.l : Int) - z).toNat < ((a.s2.l : Int) - i).toNat; omega, ?_⟩
      repeat' first
        | with_reducible apply And.intro
        | exact trivial
        | exact rfl
        | assumption
  have ei : i.toNat = x.gone.length := by omega
  intro z36 e36 z37 e37
  rw [wrap_u64] at e37
  have ez37 : z37.toNat = a.s3.l := by omega
  refine ⟨⟨trivial, ⟨_, hb.sli⟩, by omega, by omega, by omega⟩, ⟨⟨⟨rfl, rfl, rfl, rfl⟩, rfl, trivial⟩, ⟨trivial, hb.flat, rfl⟩, trivial⟩, fun y1 q1 z41 e41 => ?_, trivial⟩
  obtain ⟨q1, ql, qk⟩ := putB hb (by omega) q1
  rw [ez37, ei, ← enc3_zero] at q1
  have g1 := q1.flat
  refine ⟨⟨0, y1⟩, ⟨⟨by show (0 : Int) ≤ 0; decide, by show (0 : Int) ≤ _; omega⟩, q1, by show (y1.l : Int) ≤ 2030 + 10 * 0; omega, by show (y1.k : Int) ≤ 2040 + 10 * 0; omega⟩, ?_, ?_⟩
  · repeat' first
      | with_reducible apply And.intro
      | exact trivial
      | exact rfl
      | assumption
      | (exact e41.symm)
  clear q1 g1 ql qk hb hbl hbk hge hi0 hi1 ei
  rintro ⟨i, b⟩ ⟨⟨hi0, hi1⟩, hb, hbl, hbk⟩
  dsimp only at hi0 hi1 hb hbl hbk ⊢
  refine ⟨fun hlt => ?_, fun hge => ?_⟩
  · have rd : ∀ j, j < 8 → 8 * i.toNat + j < x.tips.length := fun j hj => by omega
    have ac : ∀ (p j : Nat) (hj : j < 8), p = a.s3.o + i.toNat * 8 → Rd a.s3.c (Nat.add p j) (.int .u8 (x.tips[8 * i.toNat + j]'(rd j hj))) := fun p j hj hp => by
      have := hx.p3.at_.get (rd j hj)
      rw [show a.s3.o + (8 * i.toNat + j) = Nat.add p j by rw [hp]; show _ = a.s3.o + i.toNat * 8 + j; omega] at this
      exact this
    have by8 : ∀ (j : Nat) (hj : j < 8), byt (x.tips[8 * i.toNat + j]'(rd j hj)) := fun j hj => h8 _ (List.getElem_mem _)
    refine ⟨⟨hi0, by omega⟩, fun p hp => ⟨_, ac p 0 (by omega) hp, _, ac p 1 (by omega) hp, _, ac p 2 (by omega) hp, _, ac p 3 (by omega) hp, _, ac p 4 (by omega) hp, _, ac p 5 (by omega) hp, _, ac p 6 (by omega) hp, _, ac p 7 (by omega) hp, ⟨trivial, ⟨by8 0 (by omega), by8 1 (by omega), by8 2 (by omega), by8 3 (by omega), by8 4 (by omega), by8 5 (by omega), by8 6 (by omega), by8 7 (by omega)⟩, trivial⟩, ⟨⟨⟨rfl, rfl, rfl, rfl, rfl, rfl, rfl, rfl, trivial⟩, trivial⟩, trivial⟩, fun _ _ => ⟨⟨trivial, ⟨_, hb.sli⟩, by omega, (dnum_in _).1, (dnum_in _).2⟩, ⟨⟨⟨rfl, rfl, rfl, rfl⟩, rfl, trivial⟩, ⟨trivial, hb.flat, rfl⟩, trivial⟩, ?_, trivial⟩, trivial⟩⟩
    obtain ⟨D, hD1, hD2, hD3⟩ : ∃ D, dnum [x.tips[8 * i.toNat + 0]'(rd 0 (by omega)), x.tips[8 * i.toNat + 1]'(rd 1 (by omega)), x.tips[8 * i.toNat + 2]'(rd 2 (by omega)), x.tips[8 * i.toNat + 3]'(rd 3 (by omega)), x.tips[8 * i.toNat + 4]'(rd 4 (by omega)), x.tips[8 * i.toNat + 5]'(rd 5 (by omega)), x.tips[8 * i.toNat + 6]'(rd 6 (by omega)), x.tips[8 * i.toNat + 7]'(rd 7 (by omega))] = D ∧ (0 ≤ D ∧ D < 18446744073709551616) ∧ enc3 x a.s3.l (i.toNat + 1) = enc3 x a.s3.l i.toNat ++ num D.toNat :=
      ⟨_, rfl, dnum_in _, by rw [enc3_succ, getD_get (i := 8 * i.toNat) (rd 0 (by omega)), getD_get (rd 1 (by omega)), getD_get (rd 2 (by omega)), getD_get (rd 3 (by omega)), getD_get (rd 4 (by omega)), getD_get (rd 5 (by omega)), getD_get (rd 6 (by omega)), getD_get (rd 7 (by omega))]; rfl⟩
    intro b' q z hz
    rw [hD1] at q
    obtain ⟨q, ql, qk⟩ := putB hb (by omega) q
    rw [wrap_sm (by omega)] at hz
    rw [← hD3] at q
    have g0 := q.flat
    refine ⟨⟨z, b'⟩, ⟨⟨by show 0 ≤ z; omega, by show z ≤ _; omega⟩, by show OwB b' (enc3 x a.s3.l z.toNat); rw [show z.toNat = i.toNat + 1 by omega]; exact q, by show (b'.l : Int) ≤ 2030 + 10 * z; omega, by show (b'.k : Int) ≤ 2040 + 10 * z; omega⟩, by show ((a.s3.l : Int) - z).toNat < ((a.s3.l : Int) - i).toNat; omega, ?_⟩
    repeat' first
      | with_reducible apply And.intro
      | exact trivial
      | exact rfl
      | assumption
  have ei3 : i.toNat = a.s3.l := by omega
  have m0 := fold_in hw.r0
  have m1 := fold_in hw.r1
  have m2 := fold_in hw.r2
  have m3 := fold_in hw.r3
  have m4 := hw.r4
  rw [ei3] at hb
  refine ⟨⟨trivial, ⟨_, hb.sli⟩, by omega, hw.r0⟩, ⟨⟨⟨rfl, rfl, rfl, rfl⟩, rfl, trivial⟩, ⟨trivial, hb.flat, rfl⟩, trivial⟩, fun c0 q0 => ?_, trivial⟩
  obtain ⟨q0, u0, v0⟩ := putB hb (by omega) q0
  refine ⟨⟨trivial, ⟨_, q0.sli⟩, by omega, hw.r1⟩, ⟨⟨⟨rfl, rfl, rfl, rfl⟩, rfl, trivial⟩, ⟨trivial, q0.flat, rfl⟩, trivial⟩, fun c1 q1 => ?_, trivial⟩
  obtain ⟨q1, u1, v1⟩ := putB q0 (by omega) q1
  refine ⟨⟨trivial, ⟨_, q1.sli⟩, by omega, hw.r2⟩, ⟨⟨⟨rfl, rfl, rfl, rfl⟩, rfl, trivial⟩, ⟨trivial, q1.flat, rfl⟩, trivial⟩, fun c2 q2 => ?_, trivial⟩
  obtain ⟨q2, u2, v2⟩ := putB q1 (by omega) q2
  refine ⟨⟨trivial, ⟨_, q2.sli⟩, by omega, hw.r3⟩, ⟨⟨⟨rfl, rfl, rfl, rfl⟩, rfl, trivial⟩, ⟨trivial, q2.flat, rfl⟩, trivial⟩, fun c3 q3 => ?_, trivial⟩
  obtain ⟨q3, u3, v3⟩ := putB q2 (by omega) q3
  refine ⟨⟨trivial, ⟨_, q3.sli⟩, by omega, hw.r4⟩, ⟨⟨⟨rfl, rfl, rfl, rfl⟩, rfl, trivial⟩, ⟨trivial, q3.flat, rfl⟩, trivial⟩, fun c4 q4 => ?_, trivial⟩
  obtain ⟨q4, u4, v4⟩ := putB q3 (by omega) q4
  have ee : (((((enc3 x a.s3.l a.s3.l ++ num (foldI a.r0).toNat) ++ num (foldI a.r1).toNat) ++ num (foldI a.r2).toNat) ++ num (foldI a.r3).toNat) ++ num a.r4.toNat) = enc a x := by unfold enc encR; simp only [List.append_assoc]
  rw [ee] at q4
  refine ⟨c4, ⟨by omega, fun y hy => by rw [hy.uniq hx]; exact q4⟩, ⟨rfl, rfl, rfl⟩, ⟨trivial, q4.flat, rfl⟩, trivial⟩
theorem s_encP : SpecOK Tryz.prog S_encP.spec := fun a K hp hq => by
  obtain ⟨⟨x, hx, hw, h8⟩, b1, b2, b3⟩ := hp
  exact specD_at (an := an_encP a x) envOK (cwD_ok s_putn (cwD_ok s_puti (cwD_ok s_hnum cw0_ok))) (fun _ => g_encP a x hx hw h8 b1 b2 b3) K ⟨⟨x, hx, hw, h8⟩, b1, b2, b3⟩ hq
end Go.Proofs.YtalbjjimnhldfaaGreatDoor
end
