/- Digests: what is told of the document's Bytes, of its Of (what is to be shown). -/
import Derived.Test.YtalbjjimnhldfaaGreatDoorYho
section
set_option maxRecDepth 100000
namespace Go.Proofs.YtalbjjimnhldfaaGreatDoor
open Go.Ev
-- keep num foldI dnum frm stirC rotC xorC addC half1 half2 rndC takeC chk wC endW ofC Go.Ev.Sli Go.Ev.HV
structure BL1 where
  l : Nat
  k : Nat
  c : List Value
structure BL2 where
  w : W4
  i : Int
  l : Nat
  k : Nat
  c : List Value
def padC (xs : List Int) (j : Nat) : List Int := xs ++ ([1] ++ List.replicate j 0)
noncomputable section
def T_dnum : SpecD := { S_dnum with find := fun l _ => d8K (agv (lv l 0)) fun (d : D8) => some (d, []) }
abbrev z4 : List Value := [.int .u64 0, .int .u64 0, .int .u64 0, .int .u64 0]
def S_bytB : SpecD where
  f := 71
  α := WSA
  args a := [.agg ⟨a.w.c⟩, a.s.v 12]
  R a := [(12, .f a.s.c 5 .ro)]
  n := 12 + 1
  pre a := wsP a
  outs := [⟨W4, fun a b => ∀ xs, Sli (Value.int .u8) 1 a.s.n a.s.o a.s.l a.s.k a.s.c xs → b = endW (wC a.w (xs ++ [1]) (xs.length / 8)) xs, fun _ b => .agg ⟨b.c⟩, fun _ _ => [], fun _ _ => 12 + 1, fun _ _ => []⟩]
  pick _ _ := 0
  find l A := w4K (agv (lv l 0)) fun w => saK A 12 (lv l 1) fun s q => some (⟨w, s⟩, q)
def la_b1 (a : WSA) (xs : List Int) : LA where
  α := BL1
  at_ e := ⟨[(1, a.s.v 12), (2, .pointer (some ⟨12 + 1, 0, none⟩)), (4, .pointer (some ⟨12 + 2, 0, none⟩)), (5, tgS (12 + 3) 0 e.l e.k)],
    [(12, .f a.s.c 5 .ro), (12 + 1, .p (.row a.w.c 140 .own)), (12 + 2, .p (.row z4 140 .own)), (12 + 3, .f e.c 5 (.grown e.k))], 12 + 4⟩
  J e := e.l ≤ e.k ∧ ∃ j, HE .u8 e.c (padC xs j) ∧ e.l = xs.length + 1 + j ∧ e.l ≤ 8 * (xs.length / 8 + 1)
  μ e := 8 * (xs.length / 8 + 1) - e.l
  ren s := renP (12 + 1) (tv s 2) ++ (renP (12 + 2) (tv s 4) ++ renS (12 + 3) (tv s 5))
def j_b1 (a : WSA) (xs : List Int) : JA where
  β := BL1
  at_ := (la_b1 a xs).at_
  J := (la_b1 a xs).J
  ren := (la_b1 a xs).ren
abbrev inB2 (a : WSA) (xs : List Int) (w : W4) (i : Int) (l k : Nat) (c : List Value) : Prop := (l ≤ k ∧ ∃ j, HE .u8 c (padC xs j) ∧ l = xs.length + 1 + j ∧ l = 8 * (xs.length / 8 + 1)) ∧ ∃ m : Nat, i = 8 * m ∧ m ≤ xs.length / 8 + 1 ∧ w = wC a.w (xs ++ [1]) m
def la_b2 (a : WSA) (xs : List Int) : LA where
  α := BL2
  at_ e := ⟨[(1, a.s.v 12), (2, .pointer (some ⟨12 + 1, 0, none⟩)), (4, .pointer (some ⟨12 + 2, 0, none⟩)), (5, tgS (12 + 3) 0 e.l e.k), (6, tgI .i64 e.i)],
    [(12, .f a.s.c 5 .ro), (12 + 1, .p (.row e.w.c 140 .own)), (12 + 2, .p (.row z4 140 .own)), (12 + 3, .f e.c 5 (.grown e.k))], 12 + 4⟩
  J e := inB2 a xs e.w e.i e.l e.k e.c
  μ e := (e.l - e.i).toNat
  ren s := renP (12 + 1) (tv s 2) ++ (renP (12 + 2) (tv s 4) ++ renS (12 + 3) (tv s 5))
def G_bytB (a : WSA) (xs : List Int) : Prop := fnW Tryz.prog E0 (cwD Tryz.prog S_inB (cwD Tryz.prog T_dnum cw0)) [some (la_b1 a xs), some (la_b2 a xs), none, some (joins [(2, j_b1 a xs)])] S_bytB.f (S_bytB.args a) (mem (S_bytB.R a) S_bytB.n) (endD Tryz.prog S_bytB a)
def S_hofB : SpecD where
  f := 32
  α := SA
  args a := [a.v 12]
  R a := [(12, .f a.c 5 .ro)]
  n := 12 + 1
  pre a := (∃ xs, Sli (Value.int .u8) 1 a.n a.o a.l a.k a.c xs ∧ Byts8 xs) ∧ a.l ≤ 100000
  outs := [⟨D8, fun a b => ∀ xs, Sli (Value.int .u8) 1 a.n a.o a.l a.k a.c xs → b = ofC xs, fun _ b => b.v, fun _ _ => [], fun _ _ => 12 + 1, fun _ _ => []⟩]
  pick _ _ := 0
  find l A := saK A 12 (lv l 0) fun s r => some (s, r)
def G_hofB (a : SA) : Prop := fnW Tryz.prog E0 (cwN (fun c => cwD Tryz.prog S_bytB (cwD Tryz.prog S_dfrom c)) 2) [] S_hofB.f (S_hofB.args a) (mem (S_hofB.R a) S_hofB.n) (endD Tryz.prog S_hofB a)
end
end Go.Proofs.YtalbjjimnhldfaaGreatDoor
end

/- Digests: what is told of the document's Bytes, of its Of is so. -/
set_option maxRecDepth 100000
namespace Go.Proofs.YtalbjjimnhldfaaGreatDoor
open Go.Ev
noncomputable section
def W_G_bytB_0 : BL2 → Option AO := fun (x53 : BL2) => Option.some (AO.row [Value.iface (1000000007 : Nat) (Value.int IntKind.u64 x53.1.1), Value.iface (1000000007 : Nat) (Value.int IntKind.u64 x53.1.2), Value.iface
(1000000007 : Nat) (Value.int IntKind.u64 x53.1.3), Value.iface (1000000007 : Nat) (Value.int IntKind.u64 x53.1.4)] (140 : Nat) Md.own)
end
set_option maxHeartbeats 3200000 in
theorem vc_bytB (a : WSA) (xs : List Int) : G_bytB a xs = (((a.2.1 = true → (0 ≤ 0 → true = true ∧ true = true ∧ 0 ≤ 0 ∧ ∀ (x0 : Nat) (x1 : List Value), x0 = 0 → x1 = lput [] 0 [] → 1 ≤ 1 ∧ ∀ (x2 : List Value), x2 = lwin [Value.int
IntKind.u8 (1 : Int)] 0 1 → (x0 + 1 ≤ 0 → true = true ∧ lall oneK x2 = true ∧ 0 + x0 * 1 + List.length x2 ≤ List.length x1 ∧ ∀ (x3 : Nat) (x4 : List Value), x3 = x0 + 1 → x4 = lput
x1 (0 + x0 * 1) x2 → ∃ (x5 : BL1), (x5.1 ≤ x5.2 ∧ ∃ (x6 : Nat), HE IntKind.u8 x5.3 (xs ++ ([(1 : Int)] ++ List.replicate x6 (0 : Int))) ∧ x5.1 = List.length xs + 1 + x6 ∧ x5.1 ≤ 8
* (List.length xs / 8 + 1)) ∧ (Z4 a.2 ∧ 0 = 0 ∧ 0 = 0 ∧ (0 = 0 ∧ x5.1 = x3 ∧ x5.2 = 0) ∧ True) ∧ (ZF a.2.5 ∧ (True ∧ a.1.1 = a.1.1 ∧ a.1.2 = a.1.2 ∧ a.1.3 = a.1.3 ∧ a.1.4 = a.1.4 ∧
True) ∧ (True ∧ (0 : Int) = 0 ∧ (0 : Int) = 0 ∧ (0 : Int) = 0 ∧ (0 : Int) = 0 ∧ True) ∧ ((x5.2 = 0 ∧ x4 = []) ∧ FlatL x5.3 ∧ x5.3 = x4) ∧ True) ∧ True) ∧ (¬x0 + 1 ≤ 0 → Few (x0 +
1) 1 ∧ 0 + x0 * 1 ≤ List.length x1 ∧ ∀ (x7 : Nat) (x8 : List Value), x7 = x0 + 1 → x8 = lwin x1 0 (x0 * 1) ++ x2 → ∃ (x9 : BL1), (x9.1 ≤ x9.2 ∧ ∃ (x10 : Nat), HE IntKind.u8 x9.3
(xs ++ ([(1 : Int)] ++ List.replicate x10 (0 : Int))) ∧ x9.1 = List.length xs + 1 + x10 ∧ x9.1 ≤ 8 * (List.length xs / 8 + 1)) ∧ (Z4 a.2 ∧ 0 = 0 ∧ 0 = 0 ∧ (0 = 0 ∧ x9.1 = x7 ∧ x9.2
= x7) ∧ True) ∧ (ZF a.2.5 ∧ (True ∧ a.1.1 = a.1.1 ∧ a.1.2 = a.1.2 ∧ a.1.3 = a.1.3 ∧ a.1.4 = a.1.4 ∧ True) ∧ (True ∧ (0 : Int) = 0 ∧ (0 : Int) = 0 ∧ (0 : Int) = 0 ∧ (0 : Int) = 0 ∧
True) ∧ (x9.2 = x7 ∧ FlatL x9.3 ∧ x9.3 = x8) ∧ True) ∧ True)) ∧ (¬0 ≤ 0 → Few 0 1 ∧ 0 ≤ 0 ∧ ∀ (x11 : Nat) (x12 : List Value), x11 = 0 → x12 = lwin [] 0 0 ++ [] → 1 ≤ 1 ∧ ∀ (x13 :
List Value), x13 = lwin [Value.int IntKind.u8 (1 : Int)] 0 1 → (0 = 0 ∧ List.length x12 = x11 * 1 ∧ x11 = x11 ∧ x11 ≤ x11 ∧ Few (x11 + 1) 1 ∧ lall oneK x13 = true) ∧ ∀ (x14 x15 :
Nat), x14 = x11 + 1 → (x15 = if x14 ≤ x11 then x11 else x14) → ∃ (x16 : BL1), (x16.1 ≤ x16.2 ∧ ∃ (x17 : Nat), HE IntKind.u8 x16.3 (xs ++ ([(1 : Int)] ++ List.replicate x17 (0 :
Int))) ∧ x16.1 = List.length xs + 1 + x17 ∧ x16.1 ≤ 8 * (List.length xs / 8 + 1)) ∧ (Z4 a.2 ∧ 0 = 0 ∧ 0 = 0 ∧ (0 = 0 ∧ x16.1 = x14 ∧ x16.2 = x15) ∧ True) ∧ (ZF a.2.5 ∧ (True ∧
a.1.1 = a.1.1 ∧ a.1.2 = a.1.2 ∧ a.1.3 = a.1.3 ∧ a.1.4 = a.1.4 ∧ True) ∧ (True ∧ (0 : Int) = 0 ∧ (0 : Int) = 0 ∧ (0 : Int) = 0 ∧ (0 : Int) = 0 ∧ True) ∧ (x16.2 = x15 ∧ FlatL x16.3 ∧
x16.3 = x12 ++ x13) ∧ True) ∧ True)) ∧ (a.2.1 = false → a.2.2 + a.2.3 * 1 ≤ List.length a.2.5 ∧ ∀ (x18 : List Value), x18 = lwin a.2.5 a.2.2 (a.2.3 * 1) → (0 + a.2.3 ≤ 0 → true =
true ∧ lall oneK x18 = true ∧ 0 + List.length x18 ≤ 0 ∧ ∀ (x19 : Nat) (x20 : List Value), x19 = 0 + a.2.3 → x20 = lput [] 0 x18 → 1 ≤ 1 ∧ ∀ (x21 : List Value), x21 = lwin
[Value.int IntKind.u8 (1 : Int)] 0 1 → (x19 + 1 ≤ 0 → true = true ∧ lall oneK x21 = true ∧ 0 + x19 * 1 + List.length x21 ≤ List.length x20 ∧ ∀ (x22 : Nat) (x23 : List Value), x22 =
x19 + 1 → x23 = lput x20 (0 + x19 * 1) x21 → ∃ (x24 : BL1), (x24.1 ≤ x24.2 ∧ ∃ (x25 : Nat), HE IntKind.u8 x24.3 (xs ++ ([(1 : Int)] ++ List.replicate x25 (0 : Int))) ∧ x24.1 =
List.length xs + 1 + x25 ∧ x24.1 ≤ 8 * (List.length xs / 8 + 1)) ∧ (Z4 a.2 ∧ 0 = 0 ∧ 0 = 0 ∧ (0 = 0 ∧ x24.1 = x22 ∧ x24.2 = 0) ∧ True) ∧ (ZF a.2.5 ∧ (True ∧ a.1.1 = a.1.1 ∧ a.1.2 =
a.1.2 ∧ a.1.3 = a.1.3 ∧ a.1.4 = a.1.4 ∧ True) ∧ (True ∧ (0 : Int) = 0 ∧ (0 : Int) = 0 ∧ (0 : Int) = 0 ∧ (0 : Int) = 0 ∧ True) ∧ ((x24.2 = 0 ∧ x23 = []) ∧ FlatL x24.3 ∧ x24.3 = x23)
∧ True) ∧ True) ∧ (¬x19 + 1 ≤ 0 → Few (x19 + 1) 1 ∧ 0 + x19 * 1 ≤ List.length x20 ∧ ∀ (x26 : Nat) (x27 : List Value), x26 = x19 + 1 → x27 = lwin x20 0 (x19 * 1) ++ x21 → ∃ (x28 :
BL1), (x28.1 ≤ x28.2 ∧ ∃ (x29 : Nat), HE IntKind.u8 x28.3 (xs ++ ([(1 : Int)] ++ List.replicate x29 (0 : Int))) ∧ x28.1 = List.length xs + 1 + x29 ∧ x28.1 ≤ 8 * (List.length xs / 8
+ 1)) ∧ (Z4 a.2 ∧ 0 = 0 ∧ 0 = 0 ∧ (0 = 0 ∧ x28.1 = x26 ∧ x28.2 = x26) ∧ True) ∧ (ZF a.2.5 ∧ (True ∧ a.1.1 = a.1.1 ∧ a.1.2 = a.1.2 ∧ a.1.3 = a.1.3 ∧ a.1.4 = a.1.4 ∧ True) ∧ (True ∧
(0 : Int) = 0 ∧ (0 : Int) = 0 ∧ (0 : Int) = 0 ∧ (0 : Int) = 0 ∧ True) ∧ (x28.2 = x26 ∧ FlatL x28.3 ∧ x28.3 = x27) ∧ True) ∧ True)) ∧ (¬0 + a.2.3 ≤ 0 → Few (0 + a.2.3) 1 ∧ 0 ≤ 0 ∧ ∀
(x30 : Nat) (x31 : List Value), x30 = 0 + a.2.3 → x31 = lwin [] 0 0 ++ x18 → 1 ≤ 1 ∧ ∀ (x32 : List Value), x32 = lwin [Value.int IntKind.u8 (1 : Int)] 0 1 → (0 = 0 ∧ List.length
x31 = x30 * 1 ∧ x30 = x30 ∧ x30 ≤ x30 ∧ Few (x30 + 1) 1 ∧ lall oneK x32 = true) ∧ ∀ (x33 x34 : Nat), x33 = x30 + 1 → (x34 = if x33 ≤ x30 then x30 else x33) → ∃ (x35 : BL1), (x35.1
≤ x35.2 ∧ ∃ (x36 : Nat), HE IntKind.u8 x35.3 (xs ++ ([(1 : Int)] ++ List.replicate x36 (0 : Int))) ∧ x35.1 = List.length xs + 1 + x36 ∧ x35.1 ≤ 8 * (List.length xs / 8 + 1)) ∧ (Z4
a.2 ∧ 0 = 0 ∧ 0 = 0 ∧ (0 = 0 ∧ x35.1 = x33 ∧ x35.2 = x34) ∧ True) ∧ (ZF a.2.5 ∧ (True ∧ a.1.1 = a.1.1 ∧ a.1.2 = a.1.2 ∧ a.1.3 = a.1.3 ∧ a.1.4 = a.1.4 ∧ True) ∧ (True ∧ (0 : Int) =
0 ∧ (0 : Int) = 0 ∧ (0 : Int) = 0 ∧ (0 : Int) = 0 ∧ True) ∧ (x35.2 = x34 ∧ FlatL x35.3 ∧ x35.3 = x31 ++ x32) ∧ True) ∧ True))) ∧ ∀ (x37 : BL1), (x37.1 ≤ x37.2 ∧ ∃ (x38 : Nat), HE
IntKind.u8 x37.3 (xs ++ ([(1 : Int)] ++ List.replicate x38 (0 : Int))) ∧ x37.1 = List.length xs + 1 + x38 ∧ x37.1 ≤ 8 * (List.length xs / 8 + 1)) → ∃ (x39 : BL1), (x39.1 ≤ x39.2 ∧
∃ (x40 : Nat), HE IntKind.u8 x39.3 (xs ++ ([(1 : Int)] ++ List.replicate x40 (0 : Int))) ∧ x39.1 = List.length xs + 1 + x40 ∧ x39.1 ≤ 8 * (List.length xs / 8 + 1)) ∧ ((Z4 a.2 ∧ 0 =
0 ∧ 0 = 0 ∧ (0 = 0 ∧ x39.1 = x37.1 ∧ x39.2 = x37.2) ∧ True) ∧ (ZF a.2.5 ∧ (True ∧ a.1.1 = a.1.1 ∧ a.1.2 = a.1.2 ∧ a.1.3 = a.1.3 ∧ a.1.4 = a.1.4 ∧ True) ∧ (True ∧ (0 : Int) = 0 ∧ (0
: Int) = 0 ∧ (0 : Int) = 0 ∧ (0 : Int) = 0 ∧ True) ∧ (x39.2 = x37.2 ∧ FlatL x39.3 ∧ x39.3 = x37.3) ∧ True) ∧ True) ∧ ∀ (x41 : BL1), (x41.1 ≤ x41.2 ∧ ∃ (x42 : Nat), HE IntKind.u8
x41.3 (xs ++ ([(1 : Int)] ++ List.replicate x42 (0 : Int))) ∧ x41.1 = List.length xs + 1 + x42 ∧ x41.1 ≤ 8 * (List.length xs / 8 + 1)) → ∀ (x43 : Int), x43 = (↑x41.1 : Int) → (8 :
Int) ≠ (0 : Int) ∧ ∀ (x44 : Int), x44 = Int.tmod x43 (8 : Int) → (x44 ≠ (0 : Int) → 1 ≤ 1 ∧ ∀ (x45 : List Value), x45 = lwin [Value.int IntKind.u8 (0 : Int)] 0 1 → (0 = 0 ∧
List.length x41.3 = x41.1 * 1 ∧ x41.2 = x41.2 ∧ x41.1 ≤ x41.2 ∧ Few (x41.1 + 1) 1 ∧ lall oneK x45 = true) ∧ ∀ (x46 x47 : Nat), x46 = x41.1 + 1 → (x47 = if x46 ≤ BL1.k x41 then
x41.2 else x46) → ∃ (x48 : BL1), (x48.1 ≤ x48.2 ∧ ∃ (x49 : Nat), HE IntKind.u8 x48.3 (xs ++ ([(1 : Int)] ++ List.replicate x49 (0 : Int))) ∧ x48.1 = List.length xs + 1 + x49 ∧
x48.1 ≤ 8 * (List.length xs / 8 + 1)) ∧ 8 * (List.length xs / 8 + 1) - x48.1 < 8 * (List.length xs / 8 + 1) - x41.1 ∧ (Z4 a.2 ∧ 0 = 0 ∧ 0 = 0 ∧ (0 = 0 ∧ x48.1 = x46 ∧ x48.2 = x47)
∧ True) ∧ (ZF a.2.5 ∧ (True ∧ a.1.1 = a.1.1 ∧ a.1.2 = a.1.2 ∧ a.1.3 = a.1.3 ∧ a.1.4 = a.1.4 ∧ True) ∧ (True ∧ (0 : Int) = 0 ∧ (0 : Int) = 0 ∧ (0 : Int) = 0 ∧ (0 : Int) = 0 ∧ True)
∧ (x48.2 = x47 ∧ FlatL x48.3 ∧ x48.3 = x41.3 ++ x45) ∧ True) ∧ True) ∧ (¬x44 ≠ (0 : Int) → ∃ (x50 : BL2), ((x50.3 ≤ x50.4 ∧ ∃ (x51 : Nat), HE IntKind.u8 x50.5 (xs ++ ([(1 : Int)]
++ List.replicate x51 (0 : Int))) ∧ x50.3 = List.length xs + 1 + x51 ∧ x50.3 = 8 * (List.length xs / 8 + 1)) ∧ ∃ (x52 : Nat), x50.2 = 8 * (↑x52 : Int) ∧ x52 ≤ List.length xs / 8 +
1 ∧ x50.1 = wC a.1 (xs ++ [(1 : Int)]) x52) ∧ ((Z4 a.2 ∧ 0 = 0 ∧ 0 = 0 ∧ (0 = 0 ∧ x50.3 = x41.1 ∧ x50.4 = x41.2) ∧ x50.2 = 0 ∧ True) ∧ (ZF a.2.5 ∧ (True ∧ x50.1.1 = a.1.1 ∧ x50.1.2
= a.1.2 ∧ x50.1.3 = a.1.3 ∧ x50.1.4 = a.1.4 ∧ True) ∧ (True ∧ (0 : Int) = 0 ∧ (0 : Int) = 0 ∧ (0 : Int) = 0 ∧ (0 : Int) = 0 ∧ True) ∧ (x50.4 = x41.2 ∧ FlatL x50.5 ∧ x50.5 = x41.3)
∧ True) ∧ True) ∧ ∀ (x53 : BL2), ((x53.3 ≤ x53.4 ∧ ∃ (x54 : Nat), HE IntKind.u8 x53.5 (xs ++ ([(1 : Int)] ++ List.replicate x54 (0 : Int))) ∧ x53.3 = List.length xs + 1 + x54 ∧
x53.3 = 8 * (List.length xs / 8 + 1)) ∧ ∃ (x55 : Nat), x53.2 = 8 * (↑x55 : Int) ∧ x55 ≤ List.length xs / 8 + 1 ∧ x53.1 = wC a.1 (xs ++ [(1 : Int)]) x55) → ∀ (x56 : Int), x56 =
(↑x53.3 : Int) → (x53.2 < x56 → ∀ x57, x57 = IntKind.wrap .i64 (x53.2 + (0 : Int)) → ((0 : Int) ≤ x57 ∧ x57 < (↑x53.3 : Int)) ∧ ∀ (x58 : Nat), x58 = 0 + Int.toNat x57 * 1 → ∃ (x59
: Int), Rd x53.5 (Nat.add x58 0) (Value.int IntKind.u8 x59) ∧ ∀ x60, x60 = IntKind.wrap .i64 (x53.2 + (1 : Int)) → ((0 : Int) ≤ x60 ∧ x60 < (↑x53.3 : Int)) ∧ ∀ (x61 : Nat), x61 = 0
+ Int.toNat x60 * 1 → ∃ (x62 : Int), Rd x53.5 (Nat.add x61 0) (Value.int IntKind.u8 x62) ∧ ∀ x63, x63 = IntKind.wrap .i64 (x53.2 + (2 : Int)) → ((0 : Int) ≤ x63 ∧ x63 < (↑x53.3 :
Int)) ∧ ∀ (x64 : Nat), x64 = 0 + Int.toNat x63 * 1 → ∃ (x65 : Int), Rd x53.5 (Nat.add x64 0) (Value.int IntKind.u8 x65) ∧ ∀ x66, x66 = IntKind.wrap .i64 (x53.2 + (3 : Int)) → ((0 :
Int) ≤ x66 ∧ x66 < (↑x53.3 : Int)) ∧ ∀ (x67 : Nat), x67 = 0 + Int.toNat x66 * 1 → ∃ (x68 : Int), Rd x53.5 (Nat.add x67 0) (Value.int IntKind.u8 x68) ∧ ∀ x69, x69 = IntKind.wrap
.i64 (x53.2 + (4 : Int)) → ((0 : Int) ≤ x69 ∧ x69 < (↑x53.3 : Int)) ∧ ∀ (x70 : Nat), x70 = 0 + Int.toNat x69 * 1 → ∃ (x71 : Int), Rd x53.5 (Nat.add x70 0) (Value.int IntKind.u8
x71) ∧ ∀ x72, x72 = IntKind.wrap .i64 (x53.2 + (5 : Int)) → ((0 : Int) ≤ x72 ∧ x72 < (↑x53.3 : Int)) ∧ ∀ (x73 : Nat), x73 = 0 + Int.toNat x72 * 1 → ∃ (x74 : Int), Rd x53.5 (Nat.add
x73 0) (Value.int IntKind.u8 x74) ∧ ∀ x75, x75 = IntKind.wrap .i64 (x53.2 + (6 : Int)) → ((0 : Int) ≤ x75 ∧ x75 < (↑x53.3 : Int)) ∧ ∀ (x76 : Nat), x76 = 0 + Int.toNat x75 * 1 → ∃
(x77 : Int), Rd x53.5 (Nat.add x76 0) (Value.int IntKind.u8 x77) ∧ ∀ x78, x78 = IntKind.wrap .i64 (x53.2 + (7 : Int)) → ((0 : Int) ≤ x78 ∧ x78 < (↑x53.3 : Int)) ∧ ∀ (x79 : Nat),
x79 = 0 + Int.toNat x78 * 1 → ∃ (x80 : Int), Rd x53.5 (Nat.add x79 0) (Value.int IntKind.u8 x80) ∧ (True ∧ True) ∧ (((x59 = x59 ∧ x62 = x62 ∧ x65 = x65 ∧ x68 = x68 ∧ x71 = x71 ∧
x74 = x74 ∧ x77 = x77 ∧ x80 = x80 ∧ True) ∧ True) ∧ True) ∧ (∀ (x81 : Unit), True → (True ∧ True) ∧ (((x53.1.1 = x53.1.1 ∧ x53.1.2 = x53.1.2 ∧ x53.1.3 = x53.1.3 ∧ x53.1.4 = x53.1.4
∧ True) ∧ dnum [x59, x62, x65, x68, x71, x74, x77, x80] = dnum [x59, x62, x65, x68, x71, x74, x77, x80] ∧ True) ∧ True) ∧ (∀ (x82 : W4), x82 = takeC (W4.mk x53.1.1 x53.1.2 x53.1.3
x53.1.4) (dnum [x59, x62, x65, x68, x71, x74, x77, x80]) → ((W_G_bytB_0 x53 = W_G_bytB_0 x53 ∧ True) ∧ True ∧ True ∧ True ∧ True ∧ True) ∧ ∀ x83, x83 = IntKind.wrap .i64 (x53.2 +
(8 : Int)) → ∃ (x84 : BL2), ((x84.3 ≤ x84.4 ∧ ∃ (x85 : Nat), HE IntKind.u8 x84.5 (xs ++ ([(1 : Int)] ++ List.replicate x85 (0 : Int))) ∧ x84.3 = List.length xs + 1 + x85 ∧ x84.3 =
8 * (List.length xs / 8 + 1)) ∧ ∃ (x86 : Nat), x84.2 = 8 * (↑x86 : Int) ∧ x86 ≤ List.length xs / 8 + 1 ∧ x84.1 = wC a.1 (xs ++ [(1 : Int)]) x86) ∧ Int.toNat ((↑x84.3 : Int) -
x84.2) < Int.toNat ((↑x53.3 : Int) - x53.2) ∧ (Z4 a.2 ∧ 0 = 0 ∧ 0 = 0 ∧ (0 = 0 ∧ x84.3 = x53.3 ∧ x84.4 = x53.4) ∧ x84.2 = x83 ∧ True) ∧ (ZF a.2.5 ∧ (True ∧ x84.1.1 = x82.1 ∧
x84.1.2 = x82.2 ∧ x84.1.3 = x82.3 ∧ x84.1.4 = x82.4 ∧ True) ∧ (True ∧ (0 : Int) = 0 ∧ (0 : Int) = 0 ∧ (0 : Int) = 0 ∧ (0 : Int) = 0 ∧ True) ∧ (x84.4 = x53.4 ∧ FlatL x84.5 ∧ x84.5 =
x53.5) ∧ True) ∧ True) ∧ True) ∧ True) ∧ (¬x53.2 < x56 → ∀ (x87 : Int), x87 = (↑a.2.3 : Int) → ∀ x88, x88 = IntKind.wrap .u64 x87 → (True ∧ True) ∧ (((x53.1.1 = x53.1.1 ∧ x53.1.2 =
x53.1.2 ∧ x53.1.3 = x53.1.3 ∧ x53.1.4 = x53.1.4 ∧ True) ∧ x88 = x88 ∧ True) ∧ True) ∧ (∀ (x89 : W4), x89 = takeC (W4.mk x53.1.1 x53.1.2 x53.1.3 x53.1.4) x88 → ∃ (x90 : W4), (∀ (x91
: List Int), SB a.2.1 a.2.2 a.2.3 a.2.4 a.2.5 x91 → x90 = endW (wC a.1 (x91 ++ [(1 : Int)]) (List.length x91 / 8)) x91) ∧ (x90.1 = x89.1 ∧ x90.2 = x89.2 ∧ x90.3 = x89.3 ∧ x90.4 =
x89.4 ∧ True) ∧ True) ∧ True))) := by kernel_rfl
theorem vc_hofB (a : SA) : G_hofB a = ((True ∧ (∃ (x0 : List Int), SB a.1 a.2 a.3 a.4 a.5 x0 ∧ ∀ (x1 : Int), x1 ∈ x0 → (0 : Int) ≤ x1 ∧ x1 ≤ (255 : Int)) ∧ a.3 ≤ 100000) ∧ (((Int.ofNat 2611923443488327891 =
(2611923443488327891 : Int) ∧ Int.ofNat 1376283091369227076 = (1376283091369227076 : Int) ∧ Int.ofNat 11820040416388919760 = (11820040416388919760 : Int) ∧ Int.ofNat 1 = (1 : Int)
∧ True) ∧ Z4 a ∧ True) ∧ ZF a.5 ∧ True) ∧ (∀ (x2 : W4), (∀ (x3 : List Int), SB a.1 a.2 a.3 a.4 a.5 x3 → x2 = endW (wC (W4.mk (2611923443488327891 : Int) (1376283091369227076 : Int)
(11820040416388919760 : Int) (1 : Int)) (x3 ++ [(1 : Int)]) (List.length x3 / 8)) x3) → ∀ x4, x4 = IntKind.wrap .u64 (bitsOf BinOp.xor IntKind.u64 x2.1 x2.3) → (True ∧ ((0 : Int) ≤
x4 ∧ x4 < (18446744073709551616 : Int)) ∧ True) ∧ ((x4 = x4 ∧ True) ∧ True) ∧ (∀ (x5 : Unit), True → ∃ (x6 : D8), (∀ (x7 : List Int), SB a.1 a.2 a.3 a.4 a.5 x7 → x6 = ofC x7) ∧
(x6.1 = x4 % (256 : Int) ∧ x6.2 = x4 / (256 : Int) % (256 : Int) ∧ x6.3 = x4 / (65536 : Int) % (256 : Int) ∧ x6.4 = x4 / (16777216 : Int) % (256 : Int) ∧ x6.5 = x4 / (4294967296 :
Int) % (256 : Int) ∧ x6.6 = x4 / (1099511627776 : Int) % (256 : Int) ∧ x6.7 = x4 / (281474976710656 : Int) % (256 : Int) ∧ x6.8 = x4 / (72057594037927936 : Int) % (256 : Int) ∧
True) ∧ True) ∧ True) ∧ True) := by kernel_rfl
theorem t_dnum : SpecOK Tryz.prog T_dnum.spec := s_dnum
theorem pad_getD (xs : List Int) (j t : Nat) (h : t < xs.length + 1 + j) : (xs ++ ([1] ++ List.replicate j 0))[t]? = some ((xs ++ [1]).getD t 0) := by
  rw [← List.append_assoc]
  by_cases ht : t < (xs ++ [1]).length
  · rw [List.getElem?_append_left ht, List.getD, List.getElem?_eq_getElem ht]; rfl
  · have hl : (xs ++ [1]).length = xs.length + 1 := by simp
    rw [List.getElem?_append_right (by omega), List.getElem?_replicate, if_pos (by omega)]
    have : (xs ++ [1]).getD t 0 = 0 := by simp only [List.getD]; rw [List.getElem?_eq_none (by omega)]; rfl
    rw [this]
theorem pad_more {xs : List Int} {c : List Value} {j : Nat} (h : HE .u8 c (xs ++ ([1] ++ List.replicate j 0))) : HE .u8 (c ++ [.int .u8 0]) (xs ++ ([1] ++ List.replicate (j + 1) 0)) := by
  have := h.append (HW.oneC (f := Value.int .u8) (z := 0))
  rwa [List.append_assoc, List.append_assoc, ← List.replicate_succ'] at this
theorem g_bytB (a : WSA) (xs : List Int) (hx : Sli (Value.int .u8) 1 a.s.n a.s.o a.s.l a.s.k a.s.c xs) (hb : Byts8 xs) (hl : a.s.l ≤ 100000) : G_bytB a xs := by
  have hlen : xs.length = a.s.l := by have := hx.len; omega
  have fl := hx.flat
  have ent : ∀ (c : List Value) (l k : Nat), HE .u8 c (xs ++ [1]) → l = xs.length + 1 → l ≤ k → l ≤ k ∧ ∃ j, HE .u8 c (xs ++ ([1] ++ List.replicate j 0)) ∧ l = xs.length + 1 + j ∧ l ≤ 8 * (xs.length / 8 + 1) := fun c l k hc e h => ⟨h, 0, hc, by omega, by omega⟩
  rw [vc_bytB]
  refine ⟨⟨fun hn => ⟨fun _ => ⟨rfl, rfl, Nat.le_refl _, fun x0 x1 e0 e1 => ⟨Nat.le_refl _, fun x2 e2 => ⟨fun h => ?_, fun _ => ⟨?_, ?_, fun x7 x8 e7 e8 => ?_⟩⟩⟩⟩, fun h => absurd (Nat.le_refl 0) h⟩, fun hn => ⟨?_, fun x18 e18 => ⟨fun h0 => ⟨rfl, ?_, ?_, fun x19 x20 e19 e20 => ⟨Nat.le_refl _, fun x21 e21 => ⟨fun h => ?_, fun _ => ⟨?_, ?_, fun x26 x27 e26 e27 => ?_⟩⟩⟩⟩, fun h0 => ⟨?_, Nat.le_refl _, fun x30 x31 e30 e31 => ⟨Nat.le_refl _, fun x32 e32 => ⟨⟨rfl, ?_, rfl, Nat.le_refl _, ?_, ?_⟩, fun x33 x34 e33 e34 => ?_⟩⟩⟩⟩⟩⟩, fun b hJ => ?_⟩
  · omega
  · unfold Few; omega
  · subst e0; exact Nat.zero_le _
  · have hx0 : xs = [] := List.eq_nil_of_length_eq_zero (by have := (hx.nil hn).1; omega)
    subst e0 e1 e2 hx0
    have hc : HE .u8 x8 ([] ++ [1]) := by rw [e8]; exact HW.oneC
    have f8 := hc.flat
    refine ⟨⟨x7, x7, x8⟩, ent _ _ _ hc (by show x7 = 0 + 1; omega) (Nat.le_refl _), ?_⟩
    repeat' first | with_reducible apply And.intro | exact trivial | exact rfl | assumption
  · have := hx.fit hn; omega
  · have h18 : x18 = [] := by rw [e18, show a.s.l = 0 by omega]; rfl
    rw [h18]; rfl
  · have h18 : x18 = [] := by rw [e18, show a.s.l = 0 by omega]; rfl
    rw [h18]; exact Nat.le_refl _
  · omega
  · unfold Few; omega
  · have h18 : x18 = [] := by rw [e18, show a.s.l = 0 by omega]; rfl
    have : x19 = 0 := by omega
    subst this; omega
  · have h18 : x18 = [] := by rw [e18, show a.s.l = 0 by omega]; rfl
    have h19 : x19 = 0 := by omega
    have hx0 : xs = [] := List.eq_nil_of_length_eq_zero (by omega)
    subst h18 h19 e20 e21 hx0
    have hc : HE .u8 x27 ([] ++ [1]) := by rw [e27]; exact HW.oneC
    have f8 := hc.flat
    refine ⟨⟨x26, x26, x27⟩, ent _ _ _ hc (by show x26 = 0 + 1; omega) (Nat.le_refl _), ?_⟩
    repeat' first | with_reducible apply And.intro | exact trivial | exact rfl | assumption
  · unfold Few; omega
  · have hw : HE .u8 x18 xs := by rw [e18]; exact hx.win hn
    have := hw.len
    rw [e31]; show ([] ++ x18).length = _; rw [List.nil_append]; omega
  · unfold Few; omega
  · rw [e32]; rfl
  · have hw : HE .u8 x18 xs := by rw [e18]; exact hx.win hn
    have hc : HE .u8 (x31 ++ x32) (xs ++ [1]) := by rw [e31, e32]; exact hw.append HW.oneC
    have f8 := hc.flat
    refine ⟨⟨x33, x34, x31 ++ x32⟩, ent _ _ _ hc (by show x33 = _; omega) (by show x33 ≤ x34; rw [e34]; split <;> omega), ?_⟩
    repeat' first | with_reducible apply And.intro | exact trivial | exact rfl | assumption
  have hbf : FlatL b.c := by obtain ⟨_, _, h, _⟩ := hJ; exact h.flat
  refine ⟨b, hJ, ?_, fun e hJ => ?_⟩
  · repeat' first | with_reducible apply And.intro | exact trivial | exact rfl | assumption
  obtain ⟨l, k, c⟩ := e
  obtain ⟨hlk, j, hc, hl', hle⟩ := hJ
  dsimp only at hlk hc hl' hle ⊢
  have hcl : c.length = l := by have := hc.len; simp at this; omega
  have fc := hc.flat
  intro x43 e43
  have hmod : Int.tmod x43 8 = ((l % 8 : Nat) : Int) := by rw [e43]; exact (Int.ofNat_tmod l 8).symm
  refine ⟨by decide, fun x44 e44 => ⟨fun hne => ⟨Nat.le_refl _, fun x45 e45 => ⟨⟨rfl, by omega, rfl, hlk, by unfold Few; omega, by rw [e45]; rfl⟩, fun x46 x47 e46 e47 => ?_⟩⟩, fun heq => ?_⟩⟩
  · have hw : HE .u8 (c ++ x45) (xs ++ ([1] ++ List.replicate (j + 1) 0)) := by rw [e45]; exact pad_more hc
    have f8 := hw.flat
    have e47 : x47 = if x46 ≤ k then k else x46 := e47
    refine ⟨⟨x46, x47, c ++ x45⟩, ⟨by show x46 ≤ x47; rw [e47]; split <;> omega, j + 1, hw, by show x46 = _; omega, by show x46 ≤ _; omega⟩, by show _ - x46 < _ - l; omega, ?_⟩
    repeat' first | with_reducible apply And.intro | exact trivial | exact rfl | assumption
  have h8 : l = 8 * (xs.length / 8 + 1) := by omega
  refine ⟨⟨a.w, 0, l, k, c⟩, ⟨⟨hlk, j, hc, hl', h8⟩, 0, rfl, by omega, rfl⟩, ?_, ?_⟩
  · repeat' first | with_reducible apply And.intro | exact trivial | exact rfl | assumption
  clear hlk hc hl' hle hcl fc e43 hmod e44 heq h8
  rintro ⟨w, i, l, k, c⟩ ⟨⟨hlk, j, hc, hl', h8⟩, m, hi, hm, hw⟩ x56 e56
  dsimp only at hlk hc hl' h8 hi hm hw e56 ⊢
  have fc := hc.flat
  have rd : ∀ (t : Nat) (p : Int) (o : Nat), i < x56 → t < 8 → p = IntKind.wrap .i64 (i + (t : Int)) → ((0 : Int) ≤ p ∧ p < (l : Int)) ∧ (o = 0 + p.toNat * 1 → Rd c (Nat.add o 0) (.int .u8 ((xs ++ [1]).getD (8 * m + t) 0))) := fun t p o hlt ht hp => by
    rw [wrap_sm (by omega)] at hp
    refine ⟨⟨by omega, by omega⟩, fun ho => ?_⟩
    have := hc.at_ _ _ (pad_getD xs j (8 * m + t) (by omega))
    rw [show Nat.add o 0 = 0 + (8 * m + t) by show o + 0 = _; omega]
    exact this
  refine ⟨fun hlt => ?_, fun hge x92 e92 x93 e93 => ?_⟩
  · refine fun p0 e0 => ⟨(rd 0 p0 0 hlt (by decide) e0).1, fun o0 f0 => ⟨_, (rd 0 p0 o0 hlt (by decide) e0).2 f0, fun p1 e1 => ⟨(rd 1 p1 0 hlt (by decide) e1).1, fun o1 f1 => ⟨_, (rd 1 p1 o1 hlt (by decide) e1).2 f1, fun p2 e2 => ⟨(rd 2 p2 0 hlt (by decide) e2).1, fun o2 f2 => ⟨_, (rd 2 p2 o2 hlt (by decide) e2).2 f2, fun p3 e3 => ⟨(rd 3 p3 0 hlt (by decide) e3).1, fun o3 f3 => ⟨_, (rd 3 p3 o3 hlt (by decide) e3).2 f3, fun p4 e4 => ⟨(rd 4 p4 0 hlt (by decide) e4).1, fun o4 f4 => ⟨_, (rd 4 p4 o4 hlt (by decide) e4).2 f4, fun p5 e5 => ⟨(rd 5 p5 0 hlt (by decide) e5).1, fun o5 f5 => ⟨_, (rd 5 p5 o5 hlt (by decide) e5).2 f5, fun p6 e6 => ⟨(rd 6 p6 0 hlt (by decide) e6).1, fun o6 f6 => ⟨_, (rd 6 p6 o6 hlt (by decide) e6).2 f6, fun p7 e7 => ⟨(rd 7 p7 0 hlt (by decide) e7).1, fun o7 f7 => ⟨_, (rd 7 p7 o7 hlt (by decide) e7).2 f7, ⟨trivial, trivial⟩, ?_, fun _ _ => ⟨⟨trivial, trivial⟩, ?_, fun x87 e87 => ⟨?_, fun x88 e88 => ?_⟩, trivial⟩, trivial⟩⟩⟩⟩⟩⟩⟩⟩⟩⟩⟩⟩⟩⟩⟩⟩
    · repeat' first | with_reducible apply And.intro | exact trivial | exact rfl | assumption
    · repeat' first | with_reducible apply And.intro | exact trivial | exact rfl | assumption
    · repeat' first | with_reducible apply And.intro | exact trivial | exact rfl | assumption
    · rw [wrap_sm (by omega)] at e88
      refine ⟨⟨x87, x88, l, k, c⟩, ⟨⟨hlk, j, hc, hl', h8⟩, m + 1, by show x88 = _; omega, by omega, ?_⟩, by show ((l : Int) - x88).toNat < ((l : Int) - i).toNat; omega, ?_⟩
      · show x87 = takeC (wC a.w (xs ++ [1]) m) (dnum (chk (xs ++ [1]) m).l)
        rw [e87, ← hw]; rfl
      · repeat' first | with_reducible apply And.intro | exact trivial | exact rfl | assumption
  · have hmm : m = xs.length / 8 + 1 := by omega
    subst hmm
    refine ⟨⟨trivial, trivial⟩, ?_, fun x94 e94 => ⟨x94, fun ys hy => ?_, ?_, trivial⟩, trivial⟩
    · repeat' first | with_reducible apply And.intro | exact trivial | exact rfl | assumption
    · rw [wrap_u64] at e93
      rw [Sli.uniqI hy hx, e94, show x93 = (xs.length : Int) by omega]
      show takeC w _ = takeC (wC a.w (xs ++ [1]) (xs.length / 8 + 1)) _
      rw [← hw]
    · repeat' first | with_reducible apply And.intro | exact trivial | exact rfl | assumption
theorem s_bytB : SpecOK Tryz.prog S_bytB.spec := fun a K hp hq => by
  obtain ⟨⟨xs, hx, hb⟩, hl⟩ := hp
  exact specD_at (an := [some (la_b1 a xs), some (la_b2 a xs), none, some (joins [(2, j_b1 a xs)])]) envOK (cwD_ok s_inB (cwD_ok t_dnum cw0_ok)) (fun _ => g_bytB a xs hx hb hl) K ⟨⟨xs, hx, hb⟩, hl⟩ hq
theorem g_hofB (a : SA) (xs : List Int) (hx : Sli (Value.int .u8) 1 a.n a.o a.l a.k a.c xs) (hb : Byts8 xs) (hl : a.l ≤ 100000) : G_hofB a := by
  have fl := hx.flat
  rw [vc_hofB]
  refine ⟨⟨trivial, ⟨xs, hx, hb⟩, hl⟩, ?_, fun x2 h2 x4 e4 => ⟨⟨trivial, ?_, trivial⟩, ?_, fun _ _ => ⟨ofC xs, fun ys hy => by rw [Sli.uniqI hy hx], ?_, trivial⟩, trivial⟩, trivial⟩
  · repeat' first | with_reducible apply And.intro | exact trivial | exact rfl | assumption
  · rw [e4]; exact xor_in _ _
  · repeat' first | with_reducible apply And.intro | exact trivial | exact rfl | assumption
  · have h2 := h2 xs hx
    have : x4 = xorC x2.w0 x2.w2 := e4
    have e : ofC xs = frm x4 := by rw [this, h2]; rfl
    rw [e]
    exact ⟨rfl, rfl, rfl, rfl, rfl, rfl, rfl, rfl, trivial⟩
theorem s_hofB : SpecOK Tryz.prog S_hofB.spec := fun a K hp hq => by
  obtain ⟨⟨xs, hx, hb⟩, hl⟩ := hp
  exact specD_at (an := []) envOK (cwN_ok (fun _ h => cwD_ok s_bytB (cwD_ok s_dfrom h)) 2) (fun _ => g_hofB a xs hx hb hl) K ⟨⟨xs, hx, hb⟩, hl⟩ hq
end Go.Proofs.YtalbjjimnhldfaaGreatDoor
