/- The program's numbers as bytes, digests as numbers: what is told of hash.Num, FromNum, octet's Put.. (what is to be shown). -/
import Derived.Test.YtalbjjimnhldfaaGreatDoorYenc
section
set_option maxRecDepth 100000
namespace Go.Proofs.YtalbjjimnhldfaaGreatDoor
open Go.Ev
-- keep num foldI dnum frm Go.Ev.Sli
def frm (n : Int) : D8 := ⟨n % 256, n / 256 % 256, n / 65536 % 256, n / 16777216 % 256, n / 4294967296 % 256, n / 1099511627776 % 256, n / 281474976710656 % 256, n / 72057594037927936 % 256⟩
def byt (n : Int) : Prop := 0 ≤ n ∧ n ≤ 255
structure D8.Ok (d : D8) : Prop where
  h0 : byt d.d0
  h1 : byt d.d1
  h2 : byt d.d2
  h3 : byt d.d3
  h4 : byt d.d4
  h5 : byt d.d5
  h6 : byt d.d6
  h7 : byt d.d7
structure FA where
  s : SA
  m : Int
structure OW where
  l : Nat
  k : Nat
  c : List Value
structure OwB (b : OW) (xs : List Int) : Prop where
  at_ : HI .u8 b.c 0 xs
  l : b.l = xs.length
  k : b.c.length = b.k
  le : b.l ≤ b.k
  flat : FlatL b.c
  one : lall oneK b.c = true
structure NA where
  b : OW
  n : Int
noncomputable section
def wI {β : Type} (v : Value) (k : Int → Option β) : Option β := match v with
  | .int _ z => k z
  | .iface _ (.int _ z) => k z
  | _ => k 0
def rowK {β : Type} (A : AW) (b : Nat) (k : List Value → Option β) : Option β := Option.rec (k []) (fun o => AO.rec (fun c _ _ => k c) (fun _ _ => k []) (k []) o) (A.heap.get b)
def saK {β : Type} (A : AW) (i : Nat) (v : Value) (k : SA → List (Nat × Nat) → Option β) : Option β := match v with
  | .slice (some ⟨b, o, _⟩) l c => rowK A b fun r => k ⟨false, o, l, c, r⟩ [(i, b)]
  | .iface _ (.slice (some ⟨b, o, _⟩) l c) => rowK A b fun r => k ⟨false, o, l, c, r⟩ [(i, b)]
  | .iface _ (.agg ⟨[.bool nb, .slice (some ⟨b, o, _⟩) l c]⟩) => rowK A b fun r => k ⟨nb, o, l, c, r⟩ [(i, b)]
  | _ => k ⟨true, 0, 0, 0, []⟩ []
def ptK {β : Type} (v : Value) (k : Nat → Option β) : Option β := match v with
  | .pointer (some ⟨b, _, _⟩) => k b
  | .iface _ (.pointer (some ⟨b, _, _⟩)) => k b
  | _ => k 0
def d8K {β : Type} (l : List Value) (k : D8 → Option β) : Option β := wI (lv l 0) fun a => wI (lv l 1) fun b => wI (lv l 2) fun c => wI (lv l 3) fun d => wI (lv l 4) fun e => wI (lv l 5) fun f => wI (lv l 6) fun g => wI (lv l 7) fun h => k ⟨a, b, c, d, e, f, g, h⟩
abbrev D8.v (d : D8) : Value := .agg ⟨[tgI .u8 d.d0, tgI .u8 d.d1, tgI .u8 d.d2, tgI .u8 d.d3, tgI .u8 d.d4, tgI .u8 d.d5, tgI .u8 d.d6, tgI .u8 d.d7]⟩
def S_hnum : SpecD where
  f := 42
  α := D8
  args a := [a.v]
  R _ := []
  n := 12
  pre a := a.Ok ∧ True
  outs := [⟨Unit, fun _ _ => True, fun a _ => tgI .u64 (dnum a.l), fun _ _ => [], fun _ _ => 12, fun _ _ => []⟩]
  pick _ _ := 0
  find l _ := d8K (agv (lv l 0)) fun d => some (d, [])
def G_hnum (a : D8) : Prop := fnW Tryz.prog E0 cw0 [] S_hnum.f (S_hnum.args a) (mem (S_hnum.R a) S_hnum.n) (endD Tryz.prog S_hnum a)
def S_hfrom : SpecD where
  f := 9
  α := Int
  args a := [tgI .u64 a]
  R _ := []
  n := 12
  pre a := (0 ≤ a ∧ a < 18446744073709551616) ∧ True
  outs := [⟨Unit, fun _ _ => True, fun a _ => (frm a).v, fun _ _ => [], fun _ _ => 12, fun _ _ => []⟩]
  pick _ _ := 0
  find l _ := wI (lv l 0) fun a => some (a, [])
def G_hfrom (a : Int) : Prop := fnW Tryz.prog E0 cw0 [] S_hfrom.f (S_hfrom.args a) (mem (S_hfrom.R a) S_hfrom.n) (endD Tryz.prog S_hfrom a)
def S_dfrom : SpecD where
  f := 66
  α := Int
  args a := [tgI .u64 a]
  R _ := []
  n := 12
  pre a := (0 ≤ a ∧ a < 18446744073709551616) ∧ True
  outs := [⟨Unit, fun _ _ => True, fun a _ => (frm a).v, fun _ _ => [], fun _ _ => 12, fun _ _ => []⟩]
  pick _ _ := 0
  find l _ := wI (lv l 0) fun a => some (a, [])
def G_dfrom (a : Int) : Prop := fnW Tryz.prog E0 cw0 [] S_dfrom.f (S_dfrom.args a) (mem (S_dfrom.R a) S_dfrom.n) (endD Tryz.prog S_dfrom a)
def S_fresh : SpecD where
  f := 87
  α := FA
  args a := [a.s.v 12, tgI .i64 a.m]
  R a := [(12, .f a.s.c 5 .gro)]
  n := 12 + 1
  pre a := (∃ xs, Sli (Value.int .u8) 1 a.s.n a.s.o a.s.l a.s.k a.s.c xs) ∧ (a.s.l ≤ 1000000 ∧ 0 ≤ a.m ∧ a.m ≤ 1000000)
  outs := [⟨OW, fun a b => b.k = a.s.l + a.m.toNat ∧ ∀ xs, Sli (Value.int .u8) 1 a.s.n a.s.o a.s.l a.s.k a.s.c xs → OwB b xs, fun _ b => tgS (12 + 1) 0 b.l b.k, fun _ b => [(12 + 1, .f b.c 5 .own)], fun _ _ => 12 + 2, fun v _ => renS (12 + 1) v⟩]
  pick _ _ := 0
  find l A := saK A 12 (lv l 0) fun s r => wI (lv l 1) fun m => some (⟨s, m⟩, r)
def G_fresh (a : FA) : Prop := fnW Tryz.prog E0 cw0 [] S_fresh.f (S_fresh.args a) (mem (S_fresh.R a) S_fresh.n) (endD Tryz.prog S_fresh a)
def S_number : SpecD where
  f := 86
  α := NA
  args a := [tgS 12 0 a.b.l a.b.k, tgI .u64 a.n]
  R a := [(12, .f a.b.c 5 .own)]
  n := 12 + 1
  pre a := (∃ xs, OwB a.b xs) ∧ (a.b.l + 10 ≤ a.b.k ∧ a.b.k ≤ 3000000 ∧ 0 ≤ a.n ∧ a.n < 18446744073709551616)
  outs := [⟨OW, fun a b => b.k = a.b.k ∧ b.l ≤ a.b.l + 10 ∧ ∀ xs, OwB a.b xs → OwB b (xs ++ num a.n.toNat), fun _ b => tgS 12 0 b.l b.k, fun _ b => [(12, .f b.c 5 .own)], fun _ _ => 12 + 1, fun _ _ => []⟩]
  pick _ _ := 0
  find l A := saK A 12 (lv l 0) fun s r => wI (lv l 1) fun m => some (⟨⟨s.l, s.k, s.c⟩, m⟩, r)
structure NL where
  n : Int
  b : OW
def la_number (a : NA) (xs : List Int) : LA where
  α := NL
  at_ e := ⟨[(0, tgS 12 0 e.b.l e.b.k), (1, tgI .u64 e.n)], [(12, .f e.b.c 5 .own)], 12 + 1⟩
  J e := (0 ≤ e.n ∧ e.n < 18446744073709551616) ∧ e.b.k = a.b.k ∧ ∃ ys, OwB e.b (xs ++ ys) ∧ ys ++ num e.n.toNat = num a.n.toNat
  μ e := e.n.toNat
  ren s := []
def G_number (a : NA) (xs : List Int) : Prop := fnW Tryz.prog E0 cw0 [some (la_number a xs)] S_number.f (S_number.args a) (mem (S_number.R a) S_number.n) (endD Tryz.prog S_number a)
def S_putn : SpecD where
  f := 53
  α := FA
  args a := [a.s.v 12, tgI .u64 a.m]
  R a := [(12, .f a.s.c 5 .gro)]
  n := 12 + 1
  pre a := (∃ xs, Sli (Value.int .u8) 1 a.s.n a.s.o a.s.l a.s.k a.s.c xs) ∧ (a.s.l ≤ 900000 ∧ 0 ≤ a.m ∧ a.m < 18446744073709551616)
  outs := [⟨OW, fun a b => b.k = a.s.l + 10 ∧ ∀ xs, Sli (Value.int .u8) 1 a.s.n a.s.o a.s.l a.s.k a.s.c xs → OwB b (xs ++ num a.m.toNat), fun _ b => tgS (12 + 1) 0 b.l b.k, fun _ b => [(12 + 1, .f b.c 5 .own)], fun _ _ => 12 + 2, fun v _ => renS (12 + 1) v⟩]
  pick _ _ := 0
  find l A := saK A 12 (lv l 0) fun s r => wI (lv l 1) fun m => some (⟨s, m⟩, r)
def S_puti : SpecD where
  f := 54
  α := FA
  args a := [a.s.v 12, tgI .i64 a.m]
  R a := [(12, .f a.s.c 5 .gro)]
  n := 12 + 1
  pre a := (∃ xs, Sli (Value.int .u8) 1 a.s.n a.s.o a.s.l a.s.k a.s.c xs) ∧ (a.s.l ≤ 900000 ∧ -9223372036854775808 ≤ a.m ∧ a.m ≤ 9223372036854775807)
  outs := [⟨OW, fun a b => b.k = a.s.l + 10 ∧ ∀ xs, Sli (Value.int .u8) 1 a.s.n a.s.o a.s.l a.s.k a.s.c xs → OwB b (xs ++ num (foldI a.m).toNat), fun _ b => tgS (12 + 1) 0 b.l b.k, fun _ b => [(12 + 1, .f b.c 5 .own)], fun _ _ => 12 + 2, fun v _ => renS (12 + 1) v⟩]
  pick _ _ := 0
  find l A := saK A 12 (lv l 0) fun s r => wI (lv l 1) fun m => some (⟨s, m⟩, r)
def G_putn (a : FA) : Prop := fnW Tryz.prog E0 (cwD Tryz.prog S_fresh (cwD Tryz.prog S_number cw0)) [] S_putn.f (S_putn.args a) (mem (S_putn.R a) S_putn.n) (endD Tryz.prog S_putn a)
def G_puti (a : FA) : Prop := fnW Tryz.prog E0 (cwD Tryz.prog S_putn cw0) [] S_puti.f (S_puti.args a) (mem (S_puti.R a) S_puti.n) (endD Tryz.prog S_puti a)
end
end Go.Proofs.YtalbjjimnhldfaaGreatDoor
end

/- The program's numbers as bytes, digests as numbers: what is told of hash.Num, FromNum, octet's Put.. is so. -/
section
set_option maxRecDepth 100000
namespace Go.Proofs.YtalbjjimnhldfaaGreatDoor
open Go.Ev
theorem vc_hnum (a : D8) : G_hnum a = (∀ x0, x0 = IntKind.wrap .u64 a.1 → (0 : Int) ≤ (0 : Int) ∧ ∀ x1, x1 = IntKind.wrap .u64 (x0 * (1 : Int)) → ∀ x2, x2 = IntKind.wrap .u64 (bitsOf BinOp.or IntKind.u64 (0 : Int) x1)
→ ∀ x3, x3 = IntKind.wrap .u64 a.2 → (0 : Int) ≤ (8 : Int) ∧ ∀ x4, x4 = IntKind.wrap .u64 (x3 * (256 : Int)) → ∀ x5, x5 = IntKind.wrap .u64 (bitsOf BinOp.or IntKind.u64 x2 x4) → ∀
x6, x6 = IntKind.wrap .u64 a.3 → (0 : Int) ≤ (16 : Int) ∧ ∀ x7, x7 = IntKind.wrap .u64 (x6 * (65536 : Int)) → ∀ x8, x8 = IntKind.wrap .u64 (bitsOf BinOp.or IntKind.u64 x5 x7) → ∀
x9, x9 = IntKind.wrap .u64 a.4 → (0 : Int) ≤ (24 : Int) ∧ ∀ x10, x10 = IntKind.wrap .u64 (x9 * (16777216 : Int)) → ∀ x11, x11 = IntKind.wrap .u64 (bitsOf BinOp.or IntKind.u64 x8
x10) → ∀ x12, x12 = IntKind.wrap .u64 a.5 → (0 : Int) ≤ (32 : Int) ∧ ∀ x13, x13 = IntKind.wrap .u64 (x12 * (4294967296 : Int)) → ∀ x14, x14 = IntKind.wrap .u64 (bitsOf BinOp.or
IntKind.u64 x11 x13) → ∀ x15, x15 = IntKind.wrap .u64 a.6 → (0 : Int) ≤ (40 : Int) ∧ ∀ x16, x16 = IntKind.wrap .u64 (x15 * (1099511627776 : Int)) → ∀ x17, x17 = IntKind.wrap .u64
(bitsOf BinOp.or IntKind.u64 x14 x16) → ∀ x18, x18 = IntKind.wrap .u64 a.7 → (0 : Int) ≤ (48 : Int) ∧ ∀ x19, x19 = IntKind.wrap .u64 (x18 * (281474976710656 : Int)) → ∀ x20, x20 =
IntKind.wrap .u64 (bitsOf BinOp.or IntKind.u64 x17 x19) → ∀ x21, x21 = IntKind.wrap .u64 a.8 → (0 : Int) ≤ (56 : Int) ∧ ∀ x22, x22 = IntKind.wrap .u64 (x21 * (72057594037927936 :
Int)) → ∀ x23, x23 = IntKind.wrap .u64 (bitsOf BinOp.or IntKind.u64 x20 x22) → ∃ (x24 : Unit), True ∧ dnum [a.1, a.2, a.3, a.4, a.5, a.6, a.7, a.8] = x23 ∧ True) := by kernel_rfl
theorem vc_hfrom (a : Int) : G_hfrom a = ((0 : Int) ≤ (0 : Int) ∧ ∀ (x0 : Int), x0 = Int.fdiv a (1 : Int) → ∀ x1, x1 = IntKind.wrap .u8 x0 → (0 : Int) ≤ (8 : Int) ∧ ∀ (x2 : Int), x2 = Int.fdiv a (256 : Int) → ∀ x3, x3 =
IntKind.wrap .u8 x2 → (0 : Int) ≤ (16 : Int) ∧ ∀ (x4 : Int), x4 = Int.fdiv a (65536 : Int) → ∀ x5, x5 = IntKind.wrap .u8 x4 → (0 : Int) ≤ (24 : Int) ∧ ∀ (x6 : Int), x6 = Int.fdiv a
(16777216 : Int) → ∀ x7, x7 = IntKind.wrap .u8 x6 → (0 : Int) ≤ (32 : Int) ∧ ∀ (x8 : Int), x8 = Int.fdiv a (4294967296 : Int) → ∀ x9, x9 = IntKind.wrap .u8 x8 → (0 : Int) ≤ (40 :
Int) ∧ ∀ (x10 : Int), x10 = Int.fdiv a (1099511627776 : Int) → ∀ x11, x11 = IntKind.wrap .u8 x10 → (0 : Int) ≤ (48 : Int) ∧ ∀ (x12 : Int), x12 = Int.fdiv a (281474976710656 : Int)
→ ∀ x13, x13 = IntKind.wrap .u8 x12 → (0 : Int) ≤ (56 : Int) ∧ ∀ (x14 : Int), x14 = Int.fdiv a (72057594037927936 : Int) → ∀ x15, x15 = IntKind.wrap .u8 x14 → ∃ (x16 : Unit), True
∧ (a % (256 : Int) = x1 ∧ a / (256 : Int) % (256 : Int) = x3 ∧ a / (65536 : Int) % (256 : Int) = x5 ∧ a / (16777216 : Int) % (256 : Int) = x7 ∧ a / (4294967296 : Int) % (256 : Int)
= x9 ∧ a / (1099511627776 : Int) % (256 : Int) = x11 ∧ a / (281474976710656 : Int) % (256 : Int) = x13 ∧ a / (72057594037927936 : Int) % (256 : Int) = x15 ∧ True) ∧ True) := by kernel_rfl
theorem vc_dfrom (a : Int) : G_dfrom a = ((256 : Int) ≠ (0 : Int) ∧ ∀ (x0 : Int), x0 = Int.tmod a (256 : Int) → ∀ x1, x1 = IntKind.wrap .u8 x0 → (256 : Int) ≠ (0 : Int) ∧ ∀ x2, x2 = IntKind.wrap .u64 (Int.tdiv a (256 :
Int)) → (256 : Int) ≠ (0 : Int) ∧ ∀ (x3 : Int), x3 = Int.tmod x2 (256 : Int) → ∀ x4, x4 = IntKind.wrap .u8 x3 → (256 : Int) ≠ (0 : Int) ∧ ∀ x5, x5 = IntKind.wrap .u64 (Int.tdiv x2
(256 : Int)) → (256 : Int) ≠ (0 : Int) ∧ ∀ (x6 : Int), x6 = Int.tmod x5 (256 : Int) → ∀ x7, x7 = IntKind.wrap .u8 x6 → (256 : Int) ≠ (0 : Int) ∧ ∀ x8, x8 = IntKind.wrap .u64
(Int.tdiv x5 (256 : Int)) → (256 : Int) ≠ (0 : Int) ∧ ∀ (x9 : Int), x9 = Int.tmod x8 (256 : Int) → ∀ x10, x10 = IntKind.wrap .u8 x9 → (256 : Int) ≠ (0 : Int) ∧ ∀ x11, x11 =
IntKind.wrap .u64 (Int.tdiv x8 (256 : Int)) → (256 : Int) ≠ (0 : Int) ∧ ∀ (x12 : Int), x12 = Int.tmod x11 (256 : Int) → ∀ x13, x13 = IntKind.wrap .u8 x12 → (256 : Int) ≠ (0 : Int)
∧ ∀ x14, x14 = IntKind.wrap .u64 (Int.tdiv x11 (256 : Int)) → (256 : Int) ≠ (0 : Int) ∧ ∀ (x15 : Int), x15 = Int.tmod x14 (256 : Int) → ∀ x16, x16 = IntKind.wrap .u8 x15 → (256 :
Int) ≠ (0 : Int) ∧ ∀ x17, x17 = IntKind.wrap .u64 (Int.tdiv x14 (256 : Int)) → (256 : Int) ≠ (0 : Int) ∧ ∀ (x18 : Int), x18 = Int.tmod x17 (256 : Int) → ∀ x19, x19 = IntKind.wrap
.u8 x18 → (256 : Int) ≠ (0 : Int) ∧ ∀ x20, x20 = IntKind.wrap .u64 (Int.tdiv x17 (256 : Int)) → (256 : Int) ≠ (0 : Int) ∧ ∀ (x21 : Int), x21 = Int.tmod x20 (256 : Int) → ∀ x22, x22
= IntKind.wrap .u8 x21 → (256 : Int) ≠ (0 : Int) ∧ ∀ x23, x23 = IntKind.wrap .u64 (Int.tdiv x20 (256 : Int)) → ∃ (x24 : Unit), True ∧ (a % (256 : Int) = x1 ∧ a / (256 : Int) % (256
: Int) = x4 ∧ a / (65536 : Int) % (256 : Int) = x7 ∧ a / (16777216 : Int) % (256 : Int) = x10 ∧ a / (4294967296 : Int) % (256 : Int) = x13 ∧ a / (1099511627776 : Int) % (256 : Int)
= x16 ∧ a / (281474976710656 : Int) % (256 : Int) = x19 ∧ a / (72057594037927936 : Int) % (256 : Int) = x22 ∧ True) ∧ True) := by kernel_rfl
theorem vc_fresh (a : FA) : G_fresh a = (∀ (x0 : Int), x0 = (↑a.1.3 : Int) → ∀ x1, x1 = IntKind.wrap .i64 (x0 + a.2) → ((0 : Int) ≤ (0 : Int) ∧ (0 : Int) ≤ x1 ∧ Few (Int.toNat x1) 1) ∧ ∀ (x2 x3 : Nat) (x4 : List Value),
x2 = 0 → x3 = Int.toNat x1 → x4 = Nat.rec [] (fun (y5 : Nat) (y6 : List Value) => [Value.int IntKind.u8 (0 : Int)] ++ y6) x3 → (a.1.1 = true → (x2 + 0 ≤ x3 → true = true ∧ true =
true ∧ 0 + x2 * 1 + 0 ≤ List.length x4 ∧ ∀ (x7 : Nat) (x8 : List Value), x7 = x2 + 0 → x8 = lput x4 (0 + x2 * 1) [] → ∃ (x9 : OW), (x9.2 = a.1.3 + Int.toNat a.2 ∧ ∀ (x10 : List
Int), SB a.1.1 a.1.2 a.1.3 a.1.4 a.1.5 x10 → OwB x9 x10) ∧ (0 = 0 ∧ x9.1 = x7 ∧ x9.2 = x3) ∧ (True ∧ FlatL x9.3 ∧ x9.3 = x8) ∧ True) ∧ (¬x2 + 0 ≤ x3 → Few (x2 + 0) 1 ∧ 0 + x2 * 1 ≤
List.length x4 ∧ ∀ (x11 : Nat) (x12 : List Value), x11 = x2 + 0 → x12 = lwin x4 0 (x2 * 1) ++ [] → ∃ (x13 : OW), (x13.2 = a.1.3 + Int.toNat a.2 ∧ ∀ (x14 : List Int), SB a.1.1 a.1.2
a.1.3 a.1.4 a.1.5 x14 → OwB x13 x14) ∧ (0 = 0 ∧ x13.1 = x11 ∧ x13.2 = x11) ∧ (False ∧ FlatL x13.3 ∧ x13.3 = x12) ∧ True)) ∧ (a.1.1 = false → a.1.2 + a.1.3 * 1 ≤ List.length a.1.5 ∧
∀ (x15 : List Value), x15 = lwin a.1.5 a.1.2 (a.1.3 * 1) → (x2 + a.1.3 ≤ x3 → true = true ∧ lall oneK x15 = true ∧ 0 + x2 * 1 + List.length x15 ≤ List.length x4 ∧ ∀ (x16 : Nat)
(x17 : List Value), x16 = x2 + a.1.3 → x17 = lput x4 (0 + x2 * 1) x15 → ∃ (x18 : OW), (x18.2 = a.1.3 + Int.toNat a.2 ∧ ∀ (x19 : List Int), SB a.1.1 a.1.2 a.1.3 a.1.4 a.1.5 x19 →
OwB x18 x19) ∧ (0 = 0 ∧ x18.1 = x16 ∧ x18.2 = x3) ∧ (True ∧ FlatL x18.3 ∧ x18.3 = x17) ∧ True) ∧ (¬x2 + a.1.3 ≤ x3 → Few (x2 + a.1.3) 1 ∧ 0 + x2 * 1 ≤ List.length x4 ∧ ∀ (x20 :
Nat) (x21 : List Value), x20 = x2 + a.1.3 → x21 = lwin x4 0 (x2 * 1) ++ x15 → ∃ (x22 : OW), (x22.2 = a.1.3 + Int.toNat a.2 ∧ ∀ (x23 : List Int), SB a.1.1 a.1.2 a.1.3 a.1.4 a.1.5
x23 → OwB x22 x23) ∧ (0 = 0 ∧ x22.1 = x20 ∧ x22.2 = x20) ∧ (False ∧ FlatL x22.3 ∧ x22.3 = x21) ∧ True))) := by kernel_rfl
theorem vc_number (a : NA) (xs : List Int) : G_number a xs = (∃ (x0 : NL), ((0 ≤ x0.1 ∧ x0.1 < 18446744073709551616) ∧ x0.2.2 = a.1.2 ∧ ∃ (x1 : List Int), OwB x0.2 (xs ++ x1) ∧ x1 ++ num (Int.toNat x0.1) = num (Int.toNat a.2)) ∧ (((0 = 0 ∧
x0.2.1 = a.1.1 ∧ x0.2.2 = a.1.2) ∧ x0.1 = a.2 ∧ True) ∧ ((True ∧ FlatL x0.2.3 ∧ x0.2.3 = a.1.3) ∧ True) ∧ True) ∧ ∀ (x2 : NL), ((0 ≤ x2.1 ∧ x2.1 < 18446744073709551616) ∧ x2.2.2 =
a.1.2 ∧ ∃ (x3 : List Int), OwB x2.2 (xs ++ x3) ∧ x3 ++ num (Int.toNat x2.1) = num (Int.toNat a.2)) → (128 ≤ x2.1 → ∀ x4, x4 = IntKind.wrap .u8 x2.1 → ∀ x5, x5 = IntKind.wrap .u8
(bitsOf BinOp.or IntKind.u8 x4 (128 : Int)) → 1 ≤ List.length [Value.iface 1000000007 (Value.int IntKind.u8 x5)] ∧ ∀ (x6 : List Value), x6 = lwin [Value.iface 1000000007 (Value.int
IntKind.u8 x5)] 0 1 → (x2.2.1 + 1 ≤ x2.2.2 → true = true ∧ lall oneK x6 = true ∧ 0 + x2.2.1 * 1 + List.length x6 ≤ List.length x2.2.3 ∧ ∀ (x7 : Nat) (x8 : List Value), x7 = x2.2.1
+ 1 → x8 = lput x2.2.3 (0 + x2.2.1 * 1) x6 → (0 : Int) ≤ (7 : Int) ∧ ∀ (x9 : Int), x9 = Int.fdiv x2.1 (128 : Int) → ∃ (x10 : NL), ((0 ≤ x10.1 ∧ x10.1 < 18446744073709551616) ∧
x10.2.2 = a.1.2 ∧ ∃ (x11 : List Int), OwB x10.2 (xs ++ x11) ∧ x11 ++ num (Int.toNat x10.1) = num (Int.toNat a.2)) ∧ Int.toNat x10.1 < Int.toNat x2.1 ∧ ((0 = 0 ∧ x10.2.1 = x7 ∧
x10.2.2 = x2.2.2) ∧ x10.1 = x9 ∧ True) ∧ ((True ∧ FlatL x10.2.3 ∧ x10.2.3 = x8) ∧ True) ∧ True) ∧ (¬x2.2.1 + 1 ≤ x2.2.2 → Few (x2.2.1 + 1) 1 ∧ 0 + x2.2.1 * 1 ≤ List.length x2.2.3 ∧
∀ (x12 : Nat) (x13 : List Value), x12 = x2.2.1 + 1 → x13 = lwin x2.2.3 0 (x2.2.1 * 1) ++ x6 → (0 : Int) ≤ (7 : Int) ∧ ∀ (x14 : Int), x14 = Int.fdiv x2.1 (128 : Int) → ∃ (x15 : NL),
((0 ≤ x15.1 ∧ x15.1 < 18446744073709551616) ∧ x15.2.2 = a.1.2 ∧ ∃ (x16 : List Int), OwB x15.2 (xs ++ x16) ∧ x16 ++ num (Int.toNat x15.1) = num (Int.toNat a.2)) ∧ Int.toNat x15.1 <
Int.toNat x2.1 ∧ (False ∧ x15.1 = x14 ∧ True) ∧ ((True ∧ FlatL x15.2.3 ∧ x15.2.3 = x2.2.3) ∧ True) ∧ True)) ∧ (¬128 ≤ x2.1 → ∀ x17, x17 = IntKind.wrap .u8 x2.1 → 1 ≤ List.length
[Value.iface 1000000007 (Value.int IntKind.u8 x17)] ∧ ∀ (x18 : List Value), x18 = lwin [Value.iface 1000000007 (Value.int IntKind.u8 x17)] 0 1 → (x2.2.1 + 1 ≤ x2.2.2 → true = true
∧ lall oneK x18 = true ∧ 0 + x2.2.1 * 1 + List.length x18 ≤ List.length x2.2.3 ∧ ∀ (x19 : Nat) (x20 : List Value), x19 = x2.2.1 + 1 → x20 = lput x2.2.3 (0 + x2.2.1 * 1) x18 → ∃
(x21 : OW), (x21.2 = a.1.2 ∧ x21.1 ≤ a.1.1 + 10 ∧ ∀ (x22 : List Int), OwB a.1 x22 → OwB x21 (x22 ++ num (Int.toNat a.2))) ∧ (0 = 0 ∧ x21.1 = x19 ∧ x21.2 = x2.2.2) ∧ (True ∧ FlatL
x21.3 ∧ x21.3 = x20) ∧ True) ∧ (¬x2.2.1 + 1 ≤ x2.2.2 → Few (x2.2.1 + 1) 1 ∧ 0 + x2.2.1 * 1 ≤ List.length x2.2.3 ∧ ∀ (x23 : Nat) (x24 : List Value), x23 = x2.2.1 + 1 → x24 = lwin
x2.2.3 0 (x2.2.1 * 1) ++ x18 → ∃ (x25 : OW), (x25.2 = a.1.2 ∧ x25.1 ≤ a.1.1 + 10 ∧ ∀ (x26 : List Int), OwB a.1 x26 → OwB x25 (x26 ++ num (Int.toNat a.2))) ∧ False ∧ (True ∧ FlatL
x25.3 ∧ x25.3 = x2.2.3) ∧ True))) := by kernel_rfl
theorem vc_putn (a : FA) : G_putn a = ((True ∧ (∃ (x0 : List Int), SB a.1.1 a.1.2 a.1.3 a.1.4 a.1.5 x0) ∧ a.1.3 ≤ 1000000 ∧ (0 : Int) ≤ Int.ofNat 10 ∧ Int.ofNat 10 ≤ (1000000 : Int)) ∧ ((Z4 a.1 ∧ Int.ofNat 10 = (10 :
Int) ∧ True) ∧ ZF a.1.5 ∧ True) ∧ (∀ (x1 : OW), (x1.2 = a.1.3 + Int.toNat (Int.ofNat 10) ∧ ∀ (x2 : List Int), SB a.1.1 a.1.2 a.1.3 a.1.4 a.1.5 x2 → OwB x1 x2) → (True ∧ (∃ (x3 :
List Int), OwB (OW.mk x1.1 x1.2 x1.3) x3) ∧ x1.1 + 10 ≤ x1.2 ∧ x1.2 ≤ 3000000 ∧ 0 ≤ a.2 ∧ a.2 < 18446744073709551616) ∧ (((0 = 0 ∧ x1.1 = x1.1 ∧ x1.2 = x1.2) ∧ a.2 = a.2 ∧ True) ∧
ZF x1.3 ∧ True) ∧ (∀ (x4 : OW), (x4.2 = x1.2 ∧ x4.1 ≤ x1.1 + 10 ∧ ∀ (x5 : List Int), OwB (OW.mk x1.1 x1.2 x1.3) x5 → OwB x4 (x5 ++ num (Int.toNat a.2))) → ∃ (x6 : OW), (x6.2 =
a.1.3 + 10 ∧ ∀ (x7 : List Int), SB a.1.1 a.1.2 a.1.3 a.1.4 a.1.5 x7 → OwB x6 (x7 ++ num (Int.toNat a.2))) ∧ (0 = 0 ∧ x6.1 = x4.1 ∧ x6.2 = x4.2) ∧ (True ∧ FlatL x6.3 ∧ x6.3 = x4.3)
∧ True) ∧ True) ∧ True) := by kernel_rfl
theorem vc_puti (a : FA) : G_puti a = ((a.2 < 0 → ∀ x0, x0 = IntKind.wrap .i64 (bitsOf BinOp.xor IntKind.i64 (-1 : Int) a.2) → ∀ x1, x1 = IntKind.wrap .u64 x0 → (0 : Int) ≤ (1 : Int) ∧ ∀ x2, x2 = IntKind.wrap .u64 (x1
* (2 : Int)) → ∀ x3, x3 = IntKind.wrap .u64 (bitsOf BinOp.or IntKind.u64 x2 (1 : Int)) → (True ∧ (∃ (x4 : List Int), SB a.1.1 a.1.2 a.1.3 a.1.4 a.1.5 x4) ∧ a.1.3 ≤ 900000 ∧ (0 :
Int) ≤ x3 ∧ x3 < (18446744073709551616 : Int)) ∧ ((Z4 a.1 ∧ x3 = x3 ∧ True) ∧ ZF a.1.5 ∧ True) ∧ (∀ (x5 : OW), (x5.2 = a.1.3 + 10 ∧ ∀ (x6 : List Int), SB a.1.1 a.1.2 a.1.3 a.1.4
a.1.5 x6 → OwB x5 (x6 ++ num (Int.toNat x3))) → ∃ (x7 : OW), (x7.2 = a.1.3 + 10 ∧ ∀ (x8 : List Int), SB a.1.1 a.1.2 a.1.3 a.1.4 a.1.5 x8 → OwB x7 (x8 ++ num (Int.toNat (foldI
a.2)))) ∧ (0 = 0 ∧ x7.1 = x5.1 ∧ x7.2 = x5.2) ∧ (True ∧ FlatL x7.3 ∧ x7.3 = x5.3) ∧ True) ∧ True) ∧ (¬a.2 < 0 → ∀ x9, x9 = IntKind.wrap .u64 a.2 → (0 : Int) ≤ (1 : Int) ∧ ∀ x10,
x10 = IntKind.wrap .u64 (x9 * (2 : Int)) → (True ∧ (∃ (x11 : List Int), SB a.1.1 a.1.2 a.1.3 a.1.4 a.1.5 x11) ∧ a.1.3 ≤ 900000 ∧ (0 : Int) ≤ x10 ∧ x10 < (18446744073709551616 :
Int)) ∧ ((Z4 a.1 ∧ x10 = x10 ∧ True) ∧ ZF a.1.5 ∧ True) ∧ (∀ (x12 : OW), (x12.2 = a.1.3 + 10 ∧ ∀ (x13 : List Int), SB a.1.1 a.1.2 a.1.3 a.1.4 a.1.5 x13 → OwB x12 (x13 ++ num
(Int.toNat x10))) → ∃ (x14 : OW), (x14.2 = a.1.3 + 10 ∧ ∀ (x15 : List Int), SB a.1.1 a.1.2 a.1.3 a.1.4 a.1.5 x15 → OwB x14 (x15 ++ num (Int.toNat (foldI a.2)))) ∧ (0 = 0 ∧ x14.1 =
x12.1 ∧ x14.2 = x12.2) ∧ (True ∧ FlatL x14.3 ∧ x14.3 = x12.3) ∧ True) ∧ True)) := by kernel_rfl
theorem or_add (i : Nat) (m b : Int) (hm : 0 ≤ m ∧ m < 2 ^ i) (hb : 0 ≤ b) (hlt : m + b * 2 ^ i < 18446744073709551616) : bitsOf .or .u64 m (b * 2 ^ i) = m + b * 2 ^ i := by
  obtain ⟨m', rfl⟩ := Int.eq_ofNat_of_zero_le hm.1
  obtain ⟨b', rfl⟩ := Int.eq_ofNat_of_zero_le hb
  have hm' : m' < 2 ^ i := by have := hm.2; exact_mod_cast this
  have e : ((b' : Int) * 2 ^ i) = ((b' * 2 ^ i : Nat) : Int) := by push_cast; rfl
  have hlt' : m' + b' * 2 ^ i < 18446744073709551616 := by rw [e] at hlt; omega
  have hb64 : (2 : Nat) ^ IntKind.u64.bits = 18446744073709551616 := by decide
  rw [e]
  show (((BitVec.ofInt IntKind.u64.bits (m' : Int) ||| BitVec.ofInt IntKind.u64.bits ((b' * 2 ^ i : Nat) : Int)).toNat : Nat) : Int) = _
  rw [BitVec.toNat_or, ofInt_nat (by rw [hb64]; omega), ofInt_nat (by rw [hb64]; omega)]
  have : m' ||| b' * 2 ^ i = m' + b' * 2 ^ i := by
    rw [Nat.or_comm, Nat.mul_comm b', ← Nat.two_pow_add_eq_or_of_lt hm' b', Nat.add_comm]
  rw [this]; push_cast; rfl
theorem or_step {i : Nat} {P m d x w o : Int} (hP : P = 2 ^ i) (hi : P * 256 ≤ 18446744073709551616) (hm : 0 ≤ m ∧ m < P) (hd : 0 ≤ d ∧ d ≤ 255) (hx : x = IntKind.wrap .u64 d) (hw : w = IntKind.wrap .u64 (x * P)) (ho : o = IntKind.wrap .u64 (bitsOf .or .u64 m w)) : o = m + d * P ∧ 0 ≤ o ∧ o < P * 256 := by
  have h1 : d * P ≤ 255 * P := Int.mul_le_mul_of_nonneg_right hd.2 (by omega)
  have h0 : 0 ≤ d * P := Int.mul_nonneg hd.1 (by omega)
  rw [wrap_u64] at hx hw ho
  have ex : x = d := by omega
  subst ex
  have ew : w = x * P := by rw [hw]; exact Int.emod_eq_of_lt h0 (by omega)
  have hor : bitsOf .or .u64 m w = m + x * P := by
    rw [ew, hP]
    exact or_add i m x (by rw [← hP]; exact hm) hd.1 (by rw [← hP]; omega)
  rw [hor, Int.emod_eq_of_lt (by omega) (by omega)] at ho
  omega
theorem g_hnum (a : D8) (hp : a.Ok) : G_hnum a := by
  obtain ⟨h0, h1, h2, h3, h4, h5, h6, h7⟩ := hp
  rw [vc_hnum]
  intro x0 e0
  refine ⟨by decide, fun x1 e1 x2 e2 x3 e3 => ⟨by decide, fun x4 e4 x5 e5 x6 e6 => ⟨by decide, fun x7 e7 x8 e8 x9 e9 => ⟨by decide, fun x10 e10 x11 e11 x12 e12 => ⟨by decide, fun x13 e13 x14 e14 x15 e15 => ⟨by decide, fun x16 e16 x17 e17 x18 e18 => ⟨by decide, fun x19 e19 x20 e20 x21 e21 => ⟨by decide, fun x22 e22 x23 e23 => ⟨(), trivial, ?_, trivial⟩⟩⟩⟩⟩⟩⟩⟩⟩
  obtain ⟨k0, p0⟩ := or_step (i := 0) rfl (by decide) (by decide) h0 e0 e1 e2
  obtain ⟨k1, p1⟩ := or_step (i := 8) rfl (by decide) p0 h1 e3 e4 e5
  obtain ⟨k2, p2⟩ := or_step (i := 16) rfl (by decide) p1 h2 e6 e7 e8
  obtain ⟨k3, p3⟩ := or_step (i := 24) rfl (by decide) p2 h3 e9 e10 e11
  obtain ⟨k4, p4⟩ := or_step (i := 32) rfl (by decide) p3 h4 e12 e13 e14
  obtain ⟨k5, p5⟩ := or_step (i := 40) rfl (by decide) p4 h5 e15 e16 e17
  obtain ⟨k6, p6⟩ := or_step (i := 48) rfl (by decide) p5 h6 e18 e19 e20
  obtain ⟨k7, p7⟩ := or_step (i := 56) rfl (by decide) p6 h7 e21 e22 e23
  clear e0 e1 e2 e3 e4 e5 e6 e7 e8 e9 e10 e11 e12 e13 e14 e15 e16 e17 e18 e19 e20 e21 e22 e23
  unfold byt at h0 h1 h2 h3 h4 h5 h6 h7
  show dnum [a.d0, a.d1, a.d2, a.d3, a.d4, a.d5, a.d6, a.d7] = x23
  have st : ∀ {d s : Int} (B : Int), (0 ≤ d ∧ d ≤ 255) → (0 ≤ s ∧ s < B) → B * 256 ≤ 18446744073709551616 → IntKind.wrap .u64 (IntKind.wrap .u64 (s * 256) + IntKind.wrap .u64 d) = s * 256 + d ∧ 0 ≤ s * 256 + d ∧ s * 256 + d < B * 256 := fun B hd hs hB => by
    rw [wrap_u64, wrap_u64, wrap_u64]; omega
  simp only [dnum, List.foldr_cons, List.foldr_nil]
  obtain ⟨j7, q7⟩ := st (d := a.d7) (s := 0) 1 h7 (by decide) (by decide)
  rw [j7]
  obtain ⟨j6, q6⟩ := st (d := a.d6) _ h6 q7 (by decide)
  rw [j6]
  obtain ⟨j5, q5⟩ := st (d := a.d5) _ h5 q6 (by decide)
  rw [j5]
  obtain ⟨j4, q4⟩ := st (d := a.d4) _ h4 q5 (by decide)
  rw [j4]
  obtain ⟨j3, q3⟩ := st (d := a.d3) _ h3 q4 (by decide)
  rw [j3]
  obtain ⟨j2, q2⟩ := st (d := a.d2) _ h2 q3 (by decide)
  rw [j2]
  obtain ⟨j1, q1⟩ := st (d := a.d1) _ h1 q2 (by decide)
  rw [j1]
  obtain ⟨j0, q0⟩ := st (d := a.d0) _ h0 q1 (by decide)
  rw [j0]
  clear j0 j1 j2 j3 j4 j5 j6 j7 q0 q1 q2 q3 q4 q5 q6 q7 p0 p1 p2 p3 p4 p5 p6 p7
  omega
theorem s_hnum : SpecOK Tryz.prog S_hnum.spec := fun a => specD_at (an := []) envOK cw0_ok fun hp => g_hnum a hp.1
theorem fdiv_pos (a b : Int) (hb : 0 ≤ b) : Int.fdiv a b = a / b := Int.fdiv_eq_ediv_of_nonneg a hb
theorem g_hfrom (a : Int) (hp : 0 ≤ a ∧ a < 18446744073709551616) : G_hfrom a := by
  rw [vc_hfrom]
  refine ⟨by decide, fun x0 e0 x1 e1 => ⟨by decide, fun x2 e2 x3 e3 => ⟨by decide, fun x4 e4 x5 e5 => ⟨by decide, fun x6 e6 x7 e7 => ⟨by decide, fun x8 e8 x9 e9 => ⟨by decide, fun x10 e10 x11 e11 => ⟨by decide, fun x12 e12 x13 e13 => ⟨by decide, fun x14 e14 x15 e15 => ⟨(), trivial, ?_, trivial⟩⟩⟩⟩⟩⟩⟩⟩⟩
  rw [wrap_u8] at e1 e3 e5 e7 e9 e11 e13 e15
  rw [fdiv_pos _ _ (by decide)] at e0 e2 e4 e6 e8 e10 e12 e14
  subst e0 e2 e4 e6 e8 e10 e12 e14
  rw [Int.ediv_one] at e1
  exact ⟨e1.symm, e3.symm, e5.symm, e7.symm, e9.symm, e11.symm, e13.symm, e15.symm, trivial⟩
theorem s_hfrom : SpecOK Tryz.prog S_hfrom.spec := fun a => specD_at (an := []) envOK cw0_ok fun hp => g_hfrom a hp.1
theorem tmod_pos {a b : Int} (ha : 0 ≤ a) : Int.tmod a b = a % b := Int.tmod_eq_emod_of_nonneg ha
theorem tdiv_pos {a b : Int} (ha : 0 ≤ a) : Int.tdiv a b = a / b := Int.tdiv_eq_ediv_of_nonneg ha
theorem step256 {a q : Int} (h : 0 ≤ a ∧ a < 18446744073709551616) (hq : q = IntKind.wrap .u64 (Int.tdiv a 256)) : q = a / 256 ∧ 0 ≤ q ∧ q < 18446744073709551616 := by
  rw [tdiv_pos h.1, wrap_u64] at hq
  omega
theorem low256 {a r b : Int} (h : 0 ≤ a) (hr : r = Int.tmod a 256) (hb : b = IntKind.wrap .u8 r) : b = a % 256 := by
  rw [tmod_pos h] at hr
  rw [wrap_u8] at hb
  omega
theorem g_dfrom (a : Int) (hp : 0 ≤ a ∧ a < 18446744073709551616) : G_dfrom a := by
  rw [vc_dfrom]
  refine ⟨by decide, fun r0 f0 b0 g0 => ⟨by decide, fun q1 h1 => ⟨by decide, fun r1 f1 b1 g1 => ⟨by decide, fun q2 h2 => ⟨by decide, fun r2 f2 b2 g2 => ⟨by decide, fun q3 h3 => ⟨by decide, fun r3 f3 b3 g3 => ⟨by decide, fun q4 h4 => ⟨by decide, fun r4 f4 b4 g4 => ⟨by decide, fun q5 h5 => ⟨by decide, fun r5 f5 b5 g5 => ⟨by decide, fun q6 h6 => ⟨by decide, fun r6 f6 b6 g6 => ⟨by decide, fun q7 h7 => ⟨by decide, fun r7 f7 b7 g7 => ⟨by decide, fun q8 h8 => ⟨(), trivial, ?_, trivial⟩⟩⟩⟩⟩⟩⟩⟩⟩⟩⟩⟩⟩⟩⟩⟩⟩
  obtain ⟨k1, p1⟩ := step256 hp h1
  obtain ⟨k2, p2⟩ := step256 p1 h2
  obtain ⟨k3, p3⟩ := step256 p2 h3
  obtain ⟨k4, p4⟩ := step256 p3 h4
  obtain ⟨k5, p5⟩ := step256 p4 h5
  obtain ⟨k6, p6⟩ := step256 p5 h6
  obtain ⟨k7, p7⟩ := step256 p6 h7
  have j0 := low256 hp.1 f0 g0
  have j1 := low256 p1.1 f1 g1
  have j2 := low256 p2.1 f2 g2
  have j3 := low256 p3.1 f3 g3
  have j4 := low256 p4.1 f4 g4
  have j5 := low256 p5.1 f5 g5
  have j6 := low256 p6.1 f6 g6
  have j7 := low256 p7.1 f7 g7
  clear f0 g0 f1 g1 f2 g2 f3 g3 f4 g4 f5 g5 f6 g6 f7 g7 h1 h2 h3 h4 h5 h6 h7 h8
  refine ⟨?_, ?_, ?_, ?_, ?_, ?_, ?_, ?_, trivial⟩ <;> omega
theorem s_dfrom : SpecOK Tryz.prog S_dfrom.spec := fun a => specD_at (an := []) envOK cw0_ok fun hp => g_dfrom a hp.1
theorem lrep_zero (n : Nat) : (Nat.rec [] (fun (_ : Nat) (y : List Value) => [Value.int .u8 0] ++ y) n : List Value) = List.replicate n (Value.int .u8 0) := by
  induction n with
  | zero => rfl
  | succ n ih => show [Value.int .u8 0] ++ (Nat.rec [] (fun (_ : Nat) (y : List Value) => [Value.int .u8 0] ++ y) n : List Value) = _; rw [ih]; rfl
theorem flat_rep (n : Nat) : FlatL (List.replicate n (Value.int .u8 0)) := fun v hv => by
  rw [List.mem_replicate] at hv
  rw [hv.2]; rfl
theorem oneK_rep (n : Nat) : lall oneK (List.replicate n (Value.int .u8 0)) = true := by
  rw [lall_iff]; intro v hv; rw [List.mem_replicate] at hv; rw [hv.2]; rfl
theorem flat_lput {c vs : List Value} {o : Nat} (h : FlatL c) (g : FlatL vs) : FlatL (lput c o vs) := fun v hv => by
  unfold lput at hv
  rcases List.mem_append.1 hv with hv | hv
  · exact h v (List.mem_of_mem_take hv)
  · rcases List.mem_append.1 hv with hv | hv
    · exact g v hv
    · exact h v (List.mem_of_mem_drop hv)
theorem one_lput {c vs : List Value} {o : Nat} (h : lall oneK c = true) (g : lall oneK vs = true) : lall oneK (lput c o vs) = true := by
  rw [lall_iff] at h g ⊢
  intro v hv
  unfold lput at hv
  rcases List.mem_append.1 hv with hv | hv
  · exact h v (List.mem_of_mem_take hv)
  · rcases List.mem_append.1 hv with hv | hv
    · exact g v hv
    · exact h v (List.mem_of_mem_drop hv)
theorem HV.lput {k : IntKind} {c vs : List Value} {xs ys : List Int} {o : Nat} (h : HV (Value.int k) c 0 xs) (g : HE k vs ys) (ho : o = xs.length) (hf : o + vs.length ≤ c.length) : HV (Value.int k) (Ev.lput c o vs) 0 (xs ++ ys) := fun i x hx => by
  rw [Nat.zero_add]
  by_cases hi : i < xs.length
  · rw [List.getElem?_append_left hi] at hx
    have := h i x hx
    rw [Nat.zero_add] at this
    unfold Rd Ev.lput at *
    rw [List.getElem?_append_left (by simp; omega), List.getElem?_take_of_lt (by omega)]; exact this
  · rw [List.getElem?_append_right (by omega)] at hx
    have hy : i - xs.length < ys.length := (List.getElem?_eq_some_iff.1 hx).1
    have := g.at_ _ x hx
    rw [Nat.zero_add] at this
    have hl := g.len
    unfold Rd Ev.lput at *
    rw [List.getElem?_append_right (by simp; omega), List.getElem?_append_left (by simp; omega)]
    rw [show i - (List.take o c).length = i - xs.length by simp; omega]; exact this
theorem lput_len {c vs : List Value} {o : Nat} (h : o + vs.length ≤ c.length) : (Ev.lput c o vs).length = c.length := by
  unfold Ev.lput; simp; omega
theorem OwB.app {b : OW} {xs ys : List Int} {vs : List Value} {n : Nat} {c : List Value} (h : OwB b xs) (g : HE .u8 vs ys) (hn : n = b.l + vs.length) (hk : n ≤ b.k) (hc : c = lput b.c b.l vs) : OwB ⟨n, b.k, c⟩ (xs ++ ys) := by
  have hl := h.l
  have hkk := h.k
  have hgl := g.len
  subst hc
  exact ⟨HV.lput h.at_ g hl (by omega), by simp; omega, by rw [lput_len (by omega)]; exact hkk, hk, flat_lput h.flat g.flat, one_lput h.one g.oneK⟩
theorem g_fresh (a : FA) (hp : ∃ xs, Sli (Value.int .u8) 1 a.s.n a.s.o a.s.l a.s.k a.s.c xs) (h1 : a.s.l ≤ 1000000) (h2 : 0 ≤ a.m) (h3 : a.m ≤ 1000000) : G_fresh a := by
  obtain ⟨ys, hy⟩ := hp
  have hnil := hy.nil
  rw [vc_fresh]
  intro x0 e0 x1 e1
  rw [wrap_i64] at e1
  have ex : x1 = a.s.l + a.m := by omega
  refine ⟨⟨by decide, by omega, by unfold Few; omega⟩, fun x2 x3 x4 e2 e3 e4 => ?_⟩
  rw [lrep_zero] at e4
  have hz : OwB ⟨0, x3, x4⟩ [] := ⟨fun i x h => by simp at h, rfl, by rw [e4]; simp, Nat.zero_le _, by rw [e4]; exact flat_rep _, by rw [e4]; exact oneK_rep _⟩
  have hl4 : x4.length = x3 := by rw [e4]; simp
  refine ⟨fun hn => ⟨fun _ => ⟨rfl, rfl, by omega, fun n c e5 e6 => ?_⟩, fun h => by omega⟩, fun hn => ⟨by have := hy.fit hn; omega, fun vs e5 => ⟨fun hle => ⟨rfl, ?_, ?_, fun n c e6 e7 => ?_⟩, fun h => by omega⟩⟩⟩
  · have hl0 := (hnil hn).1
    have := hz.app (ys := []) (vs := []) (n := n) (c := c) .nil (by simp; omega) (by show n ≤ x3; omega) (by rw [e6, e2])
    refine ⟨⟨n, x3, c⟩, ⟨by show x3 = _; omega, fun zs hs => ?_⟩, ⟨rfl, rfl, rfl⟩, ⟨trivial, this.flat, rfl⟩, trivial⟩
    rw [hn] at hs
    rw [hs.nilE rfl]; exact this
  · have hw : HE .u8 vs ys := by rw [e5]; exact hy.win hn
    exact hw.oneK
  · have hw : HE .u8 vs ys := by rw [e5]; exact hy.win hn
    have := hw.len; have := hy.len; omega
  · have hw : HE .u8 vs ys := by rw [e5]; exact hy.win hn
    have hl := hw.len
    have hl2 := hy.len
    have := hz.app (ys := ys) (vs := vs) (n := n) (c := c) hw (by show n = 0 + vs.length; omega) (by show n ≤ x3; omega) (by rw [e7, e2])
    refine ⟨⟨n, x3, c⟩, ⟨by show x3 = _; omega, fun zs hs => ?_⟩, ⟨rfl, rfl, rfl⟩, ⟨trivial, this.flat, rfl⟩, trivial⟩
    rw [Sli.uniqI hs hy]
    simpa using this
theorem s_fresh : SpecOK Tryz.prog S_fresh.spec := fun a => specD_at (an := []) envOK cw0_ok fun hp => g_fresh a hp.1 hp.2.1 hp.2.2.1 hp.2.2.2
theorem or_128 {n x b : Int} (h0 : 0 ≤ n) (hx : x = IntKind.wrap .u8 n) (hb : b = IntKind.wrap .u8 (bitsOf .or .u8 x 128)) : b = 128 + n % 128 := by
  rw [wrap_u8] at hx
  obtain ⟨m, hm⟩ := Int.eq_ofNat_of_zero_le (show 0 ≤ n % 256 by omega)
  have hml : m < 256 := by omega
  have key : bitsOf .or .u8 x 128 = ((m ||| 128 : Nat) : Int) := by
    rw [hx, hm]
    show (((BitVec.ofInt IntKind.u8.bits (m : Int) ||| BitVec.ofInt IntKind.u8.bits ((128 : Nat) : Int)).toNat : Nat) : Int) = _
    rw [BitVec.toNat_or, ofInt_nat (by show m < 256; omega), ofInt_nat (by decide)]
  have hor : m ||| 128 = 128 + m % 128 := by
    have hall : ∀ k : Fin 256, k.val ||| 128 = 128 + k.val % 128 := by decide
    exact hall ⟨m, hml⟩
  rw [key, hor, wrap_u8] at hb
  omega
theorem OwB.uniq {b : OW} {xs ys : List Int} (h : OwB b xs) (g : OwB b ys) : xs = ys := HV.uniq (fun _ _ _ _ => Rd.int) h.at_ g.at_ (h.l.symm.trans g.l)
theorem g_number (a : NA) (xs : List Int) (hx : OwB a.b xs) (hk : a.b.l + 10 ≤ a.b.k) (hk2 : a.b.k ≤ 3000000) (h0 : 0 ≤ a.n) (h1 : a.n < 18446744073709551616) : G_number a xs := by
  have h10 := num_len10 (n := a.n.toNat) (by omega)
  have hxl := hx.l
  rw [vc_number]
  refine ⟨⟨a.n, a.b⟩, ⟨⟨h0, h1⟩, rfl, [], by simpa using hx, rfl⟩, ⟨⟨⟨rfl, rfl, rfl⟩, rfl, trivial⟩, ⟨⟨trivial, hx.flat, rfl⟩, trivial⟩, trivial⟩, ?_⟩
  rintro ⟨n, b⟩ ⟨⟨hn0, hn1⟩, hbk, ys, hb, hs⟩
  dsimp only at hn0 hn1 hbk hb hs ⊢
  have hbl := hb.l
  have hpos := num_pos n.toNat
  have hlen : ys.length + (num n.toNat).length ≤ 10 := by rw [← List.length_append, hs]; exact h10
  rw [List.length_append] at hbl
  refine ⟨fun hge x4 e4 x5 e5 => ⟨by simp, fun x6 e6 => ?_⟩, fun hlt x17 e17 => ⟨by simp, fun x18 e18 => ?_⟩⟩
  · have e128 := or_128 hn0 e4 e5
    rw [lwin_one] at e6
    have hw : HE .u8 x6 [x5] := by rw [e6]; exact .one
    refine ⟨fun hle => ⟨rfl, hw.oneK, by have := hb.k; have := hw.len; simp at this; omega, fun x7 x8 e7 e8 => ⟨by decide, fun x9 e9 => ?_⟩⟩, fun h => by omega⟩
    rw [fdiv_pos _ _ (by decide)] at e9
    have hnum : num n.toNat = x5 :: num x9.toNat := by
      rw [num_big (by omega)]
      congr 1
      · omega
      · congr 1; omega
    have hw2 : HE .u8 x6 [x5] := hw
    have happ := hb.app (n := x7) (c := x8) hw2 (by have := hw.len; simp at this; omega) (by omega) (by rw [e8]; congr 1; omega)
    refine ⟨⟨x9, ⟨x7, b.k, x8⟩⟩, ⟨⟨by show 0 ≤ x9; omega, by show x9 < _; omega⟩, hbk, ys ++ [x5], by rw [← List.append_assoc]; exact happ, by rw [← hs, hnum]; simp⟩, by show x9.toNat < n.toNat; omega, ⟨⟨rfl, rfl, rfl⟩, rfl, trivial⟩, ⟨⟨trivial, happ.flat, rfl⟩, trivial⟩, trivial⟩
  · have hnum := num_last hn0 hlt e17
    rw [lwin_one] at e18
    have hw : HE .u8 x18 [x17] := by rw [e18]; exact .one
    refine ⟨fun hle => ⟨rfl, hw.oneK, by have := hb.k; have := hw.len; simp at this; omega, fun x19 x20 e19 e20 => ?_⟩, fun h => by omega⟩
    have happ := hb.app (n := x19) (c := x20) hw (by have := hw.len; simp at this; omega) (by omega) (by rw [e20]; congr 1; omega)
    refine ⟨⟨x19, b.k, x20⟩, ⟨hbk, by show x19 ≤ _; omega, fun zs hz => ?_⟩, ⟨rfl, rfl, rfl⟩, ⟨trivial, happ.flat, rfl⟩, trivial⟩
    rw [hz.uniq hx, ← hs, hnum, ← List.append_assoc]; exact happ
theorem s_number : SpecOK Tryz.prog S_number.spec := fun a K hp hq => by
  obtain ⟨⟨xs, hx⟩, h⟩ := hp
  exact specD_at (an := [some (la_number a xs)]) envOK cw0_ok (fun _ => g_number a xs hx h.1 h.2.1 h.2.2.1 h.2.2.2) K ⟨⟨xs, hx⟩, h⟩ hq
theorem g_putn (a : FA) (hp : ∃ xs, Sli (Value.int .u8) 1 a.s.n a.s.o a.s.l a.s.k a.s.c xs) (h1 : a.s.l ≤ 900000) (h2 : 0 ≤ a.m) (h3 : a.m < 18446744073709551616) : G_putn a := by
  obtain ⟨ys, hy⟩ := hp
  rw [vc_putn]
  refine ⟨⟨trivial, ⟨ys, hy⟩, by omega, by decide, by decide⟩, ⟨⟨⟨rfl, rfl, rfl, rfl⟩, rfl, trivial⟩, ⟨trivial, hy.flat, rfl⟩, trivial⟩, fun b ⟨hb1, hb2⟩ => ?_, trivial⟩
  have hb := hb2 _ hy
  have hbl := hb.l
  have hyl := hy.len
  have hk : b.k = a.s.l + 10 := hb1
  refine ⟨⟨trivial, ⟨ys, hb⟩, by show b.l + 10 ≤ b.k; omega, by show b.k ≤ _; omega, h2, h3⟩, ⟨⟨⟨rfl, rfl, rfl⟩, rfl, trivial⟩, ⟨trivial, hb.flat, rfl⟩, trivial⟩, fun d ⟨hd1, hd2, hd3⟩ => ?_, trivial⟩
  refine ⟨d, ⟨by omega, fun zs hz => ?_⟩, ⟨rfl, rfl, rfl⟩, ⟨trivial, (hd3 _ hb).flat, rfl⟩, trivial⟩
  rw [Sli.uniqI hz hy]; exact hd3 _ hb
theorem s_putn : SpecOK Tryz.prog S_putn.spec := fun a => specD_at (an := []) envOK (cwD_ok s_fresh (cwD_ok s_number cw0_ok)) fun hp => g_putn a hp.1 hp.2.1 hp.2.2.1 hp.2.2.2
theorem xor_i64 {n : Int} (hl : -9223372036854775808 ≤ n) (hn : n < 0) : IntKind.wrap .i64 (bitsOf .xor .i64 (-1) n) = -n - 1 := by
  obtain ⟨m, hm⟩ := Int.eq_ofNat_of_zero_le (show 0 ≤ -n - 1 by omega)
  have hml : m < 9223372036854775808 := by omega
  have e : n = -1 - (m : Int) := by omega
  have hb : (BitVec.ofInt 64 (-1) ^^^ BitVec.ofInt 64 n) = BitVec.ofNat 64 m := by
    rw [e]
    have : BitVec.ofInt 64 (-1 - (m : Int)) = ~~~ BitVec.ofNat 64 m := by
      apply BitVec.eq_of_toInt_eq
      rw [BitVec.toInt_not, BitVec.toInt_ofInt, BitVec.toNat_ofNat, Nat.mod_eq_of_lt (by omega)]
      simp only [Int.bmod_def]
      omega
    rw [this]
    have h2 : BitVec.ofInt 64 (-1) = BitVec.allOnes 64 := by decide
    rw [h2, BitVec.allOnes_xor, BitVec.not_not]
  show IntKind.wrap .i64 (((BitVec.ofInt 64 (-1) ^^^ BitVec.ofInt 64 n).toNat : Nat) : Int) = _
  rw [hb, BitVec.toNat_ofNat, Nat.mod_eq_of_lt (by omega), wrap_i64]
  omega
theorem or_one {m x : Int} (h : 0 ≤ m) (hx : x = 2 * m) (hl : x < 18446744073709551615) : IntKind.wrap .u64 (bitsOf .or .u64 x 1) = x + 1 := by
  obtain ⟨k, rfl⟩ := Int.eq_ofNat_of_zero_le h
  have hk : 2 * k < 18446744073709551615 := by omega
  have e : x = ((2 * k : Nat) : Int) := by rw [hx]; push_cast; rfl
  rw [e]
  show IntKind.wrap .u64 (((BitVec.ofInt IntKind.u64.bits ((2 * k : Nat) : Int) ||| BitVec.ofInt IntKind.u64.bits ((1 : Nat) : Int)).toNat : Nat) : Int) = _
  rw [BitVec.toNat_or, ofInt_nat (by show 2 * k < 18446744073709551616; omega), ofInt_nat (by decide)]
  have : 2 * k ||| 1 = 2 * k + 1 := by
    have := Nat.two_pow_add_eq_or_of_lt (i := 1) (b := 1) (by decide) k
    rw [Nat.pow_one] at this
    exact this.symm
  rw [this, wrap_u64]; push_cast; omega
theorem g_puti (a : FA) (hp : ∃ xs, Sli (Value.int .u8) 1 a.s.n a.s.o a.s.l a.s.k a.s.c xs) (h1 : a.s.l ≤ 900000) (h2 : -9223372036854775808 ≤ a.m) (h3 : a.m ≤ 9223372036854775807) : G_puti a := by
  obtain ⟨ys, hy⟩ := hp
  rw [vc_puti]
  refine ⟨fun hneg x0 e0 x1 e1 => ⟨by decide, fun x2 e2 x3 e3 => ?_⟩, fun hnn x9 e9 => ⟨by decide, fun x10 e10 => ?_⟩⟩
  · rw [xor_i64 h2 hneg] at e0
    rw [wrap_u64] at e1 e2
    rw [or_one (m := x1) (by omega) (by omega) (by omega)] at e3
    have hf : x3 = foldI a.m := by unfold foldI; rw [if_pos hneg]; omega
    refine ⟨⟨trivial, ⟨ys, hy⟩, h1, by omega, by omega⟩, ⟨⟨⟨rfl, rfl, rfl, rfl⟩, rfl, trivial⟩, ⟨trivial, hy.flat, rfl⟩, trivial⟩, fun b ⟨hb1, hb2⟩ => ?_, trivial⟩
    exact ⟨b, ⟨hb1, fun zs hz => by rw [← hf]; exact hb2 _ hz⟩, ⟨rfl, rfl, rfl⟩, ⟨trivial, (hb2 _ hy).flat, rfl⟩, trivial⟩
  · rw [wrap_u64] at e9 e10
    have hf : x10 = foldI a.m := by unfold foldI; rw [if_neg hnn]; omega
    refine ⟨⟨trivial, ⟨ys, hy⟩, h1, by omega, by omega⟩, ⟨⟨⟨rfl, rfl, rfl, rfl⟩, rfl, trivial⟩, ⟨trivial, hy.flat, rfl⟩, trivial⟩, fun b ⟨hb1, hb2⟩ => ?_, trivial⟩
    exact ⟨b, ⟨hb1, fun zs hz => by rw [← hf]; exact hb2 _ hz⟩, ⟨rfl, rfl, rfl⟩, ⟨trivial, (hb2 _ hy).flat, rfl⟩, trivial⟩
theorem s_puti : SpecOK Tryz.prog S_puti.spec := fun a => specD_at (an := []) envOK (cwD_ok s_putn cw0_ok) fun hp => g_puti a hp.1 hp.2.1 hp.2.2.1 hp.2.2.2
end Go.Proofs.YtalbjjimnhldfaaGreatDoor
end
