/- Digests: what is told of taking in, of bytes, of Of (what is to be shown). -/
import Derived.Test.YtalbjjimnhldfaaGreatDoorYst
section
set_option maxRecDepth 100000
namespace Go.Proofs.YtalbjjimnhldfaaGreatDoor
open Go.Ev
-- keep num foldI dnum frm stirC rotC xorC addC half1 half2 rndC takeC chk wC endW ofC Go.Ev.Sli Go.Ev.HV
structure WN where
  w : W4
  n : Int
def takeC (w : W4) (n : Int) : W4 := stirC ⟨xorC w.w0 n, w.w1, w.w2, w.w3⟩
def chk (ys : List Int) (i : Nat) : D8 := ⟨ys.getD (8 * i) 0, ys.getD (8 * i + 1) 0, ys.getD (8 * i + 2) 0, ys.getD (8 * i + 3) 0, ys.getD (8 * i + 4) 0, ys.getD (8 * i + 5) 0, ys.getD (8 * i + 6) 0, ys.getD (8 * i + 7) 0⟩
def wC (w : W4) (ys : List Int) : Nat → W4
  | 0 => w
  | k + 1 => takeC (wC w ys k) (dnum (chk ys k).l)
def endW (w : W4) (xs : List Int) : W4 := takeC (takeC w (dnum (chk (xs ++ [1]) (xs.length / 8)).l)) xs.length
def ofC (xs : List Int) : D8 := frm (xorC (endW (wC ⟨2611923443488327891, 1376283091369227076, 11820040416388919760, 1⟩ (xs ++ [1]) (xs.length / 8)) xs).w0 (endW (wC ⟨2611923443488327891, 1376283091369227076, 11820040416388919760, 1⟩ (xs ++ [1]) (xs.length / 8)) xs).w2)
structure WSA where
  w : W4
  s : SA
structure CL where
  c : List Value
structure HL where
  w : W4
  n : Int
  i : Int
noncomputable section
def w4K {β : Type} (r : List Value) (k : W4 → Option β) : Option β := wI (lv r 0) fun a => wI (lv r 1) fun c => wI (lv r 2) fun d => wI (lv r 3) fun e => k ⟨a, c, d, e⟩
def S_takeA : SpecD where
  f := 41
  α := WN
  args a := [.pointer (some ⟨12, 0, none⟩), tgI .u64 a.n]
  R a := [(12, .p (.row a.w.c 99 .own))]
  n := 12 + 1
  pre _ := True
  outs := [⟨W4, fun a b => b = takeC a.w a.n, fun _ _ => .tuple ⟨[]⟩, fun _ b => [(12, .p (.row b.c 99 .own))], fun _ _ => 12 + 1, fun _ _ => []⟩]
  pick _ _ := 0
  find l A := ptK (lv l 0) fun b => rowK A b fun r => w4K r fun w => wI (lv l 1) fun n => some (⟨w, n⟩, [(12, b)])
def G_takeA (a : WN) : Prop := fnW Tryz.prog E0 (cwD Tryz.prog S_stirA cw0) [] S_takeA.f (S_takeA.args a) (mem (S_takeA.R a) S_takeA.n) (endD Tryz.prog S_takeA a)
def S_inB : SpecD where
  f := 97
  α := WN
  args a := [.agg ⟨a.w.c⟩, tgI .u64 a.n]
  R _ := []
  n := 12
  pre _ := True
  outs := [⟨W4, fun a b => b = takeC a.w a.n, fun _ b => .agg ⟨b.c⟩, fun _ _ => [], fun _ _ => 12, fun _ _ => []⟩]
  pick _ _ := 0
  find l _ := w4K (agv (lv l 0)) fun w => wI (lv l 1) fun n => some (⟨w, n⟩, [])
def G_inB (a : WN) : Prop := fnW Tryz.prog E0 (cwD Tryz.prog S_stirB cw0) [] S_inB.f (S_inB.args a) (mem (S_inB.R a) S_inB.n) (endD Tryz.prog S_inB a)
abbrev wsR (a : WSA) : List (Nat × PO) := [(12, .p (.row a.w.c 99 .own)), (12 + 1, .f a.s.c 5 .ro)]
abbrev wsP (a : WSA) : Prop := (∃ xs, Sli (Value.int .u8) 1 a.s.n a.s.o a.s.l a.s.k a.s.c xs ∧ Byts8 xs) ∧ a.s.l ≤ 100000
def wsK (l : List Value) (A : AW) : Option (WSA × List (Nat × Nat)) := ptK (lv l 0) fun b => rowK A b fun r => w4K r fun w => saK A (12 + 1) (lv l 1) fun s q => some (⟨w, s⟩, (12, b) :: q)
def S_whole : SpecD where
  f := 130
  α := WSA
  args a := [.pointer (some ⟨12, 0, none⟩), a.s.v (12 + 1)]
  R a := wsR a
  n := 12 + 2
  pre a := wsP a
  outs := [⟨W4, fun a b => ∀ xs, Sli (Value.int .u8) 1 a.s.n a.s.o a.s.l a.s.k a.s.c xs → b = wC a.w (xs ++ [1]) (xs.length / 8), fun _ _ => .tuple ⟨[]⟩, fun a b => wsR ⟨b, a.s⟩, fun _ _ => 12 + 2, fun _ _ => []⟩]
  pick _ _ := 0
  find l A := wsK l A
def la_whole (a : WSA) (xs : List Int) : LA where
  α := HL
  at_ e := ⟨[(0, .pointer (some ⟨12, 0, none⟩)), (1, a.s.v (12 + 1)), (7, tgI .i64 e.n), (8, tgI .i64 e.i)], wsR ⟨e.w, a.s⟩, 12 + 2⟩
  J e := (0 ≤ e.i ∧ e.i ≤ e.n) ∧ e.n = ((xs.length / 8 : Nat) : Int) ∧ e.w = wC a.w (xs ++ [1]) e.i.toNat
  μ e := (e.n - e.i).toNat
  ren _ := []
def G_whole (a : WSA) (xs : List Int) : Prop := fnW Tryz.prog E0 (cwD Tryz.prog S_takeA (cwD Tryz.prog S_hnum cw0)) [some (la_whole a xs)] S_whole.f (S_whole.args a) (mem (S_whole.R a) S_whole.n) (endD Tryz.prog S_whole a)
def S_end : SpecD where
  f := 131
  α := WSA
  args a := [.pointer (some ⟨12, 0, none⟩), a.s.v (12 + 1)]
  R a := wsR a
  n := 12 + 2
  pre a := wsP a
  outs := [⟨W4, fun a b => ∀ xs, Sli (Value.int .u8) 1 a.s.n a.s.o a.s.l a.s.k a.s.c xs → b = endW a.w xs, fun _ _ => .tuple ⟨[]⟩, fun a b => wsR ⟨b, a.s⟩, fun _ _ => 12 + 2, fun _ _ => []⟩]
  pick _ _ := 0
  find l A := wsK l A
def j_end (a : WSA) (xs : List Int) : JA where
  β := CL
  at_ e := ⟨[(0, .pointer (some ⟨12, 0, none⟩)), (1, a.s.v (12 + 1)), (4, tg (.pointer (some ⟨12 + 2, 0, none⟩)))], wsR a ++ [(12 + 2, .f e.c 29 .own)], 12 + 3⟩
  J e := HE .u8 e.c (chk (xs ++ [1]) (xs.length / 8)).l
  ren s := renP (12 + 2) (tv s 4)
def G_end (a : WSA) (xs : List Int) : Prop := fnW Tryz.prog E0 (cwD Tryz.prog S_takeA (cwD Tryz.prog S_hnum cw0)) [some (joins [(3, j_end a xs)])] S_end.f (S_end.args a) (mem (S_end.R a) S_end.n) (endD Tryz.prog S_end a)
def S_hof : SpecD where
  f := 69
  α := SA
  args a := [a.v 12]
  R a := [(12, .f a.c 5 .ro)]
  n := 12 + 1
  pre a := (∃ xs, Sli (Value.int .u8) 1 a.n a.o a.l a.k a.c xs ∧ Byts8 xs) ∧ a.l ≤ 100000
  outs := [⟨D8, fun a b => ∀ xs, Sli (Value.int .u8) 1 a.n a.o a.l a.k a.c xs → b = ofC xs, fun _ b => b.v, fun _ _ => [], fun _ _ => 12 + 1, fun _ _ => []⟩]
  pick _ _ := 0
  find l A := saK A 12 (lv l 0) fun s r => some (s, r)
def G_hof (a : SA) : Prop := fnW Tryz.prog E0 (cwN (fun c => cwD Tryz.prog S_whole (cwD Tryz.prog S_end (cwD Tryz.prog S_hfrom c))) 3) [] S_hof.f (S_hof.args a) (mem (S_hof.R a) S_hof.n) (endD Tryz.prog S_hof a)
end
end Go.Proofs.YtalbjjimnhldfaaGreatDoor
end

/- Digests: what is told of taking in, of bytes, of Of is so. -/
section
set_option maxRecDepth 100000
namespace Go.Proofs.YtalbjjimnhldfaaGreatDoor
open Go.Ev
theorem vc_takeA (a : WN) : G_takeA a = (∀ x0, x0 = IntKind.wrap .u64 (bitsOf BinOp.xor IntKind.u64 a.1.1 a.2) → (True ∧ True ∧ True ∧ True ∧ True ∧ True ∧ True ∧ True ∧ True ∧ True) ∧ (True ∧ True) ∧ ((0 = 0 ∧ True) ∧
(True ∧ x0 = x0 ∧ a.1.2 = a.1.2 ∧ a.1.3 = a.1.3 ∧ a.1.4 = a.1.4 ∧ True) ∧ True) ∧ (∀ (x1 : W4), x1 = stirC (W4.mk x0 a.1.2 a.1.3 a.1.4) → ∃ (x2 : W4), x2 = takeC a.1 a.2 ∧ True ∧
(True ∧ x2.1 = x1.1 ∧ x2.2 = x1.2 ∧ x2.3 = x1.3 ∧ x2.4 = x1.4 ∧ True) ∧ True) ∧ True) := by kernel_rfl
theorem vc_inB (a : WN) : G_inB a = (∀ x0, x0 = IntKind.wrap .u64 (bitsOf BinOp.xor IntKind.u64 a.1.1 a.2) → (True ∧ True) ∧ (((x0 = x0 ∧ a.1.2 = a.1.2 ∧ a.1.3 = a.1.3 ∧ a.1.4 = a.1.4 ∧ True) ∧ True) ∧ True) ∧ (∀ (x1
: W4), x1 = stirC (W4.mk x0 a.1.2 a.1.3 a.1.4) → ∃ (x2 : W4), x2 = takeC a.1 a.2 ∧ (x2.1 = x1.1 ∧ x2.2 = x1.2 ∧ x2.3 = x1.3 ∧ x2.4 = x1.4 ∧ True) ∧ True) ∧ True) := by kernel_rfl
theorem vc_whole (a : WSA) (xs : List Int) : G_whole a xs = (∀ (x0 : Int), x0 = (↑a.2.3 : Int) → (8 : Int) ≠ (0 : Int) ∧ ∀ x1, x1 = IntKind.wrap .i64 (Int.tdiv x0 (8 : Int)) → ∃ (x2 : HL), ((0 ≤ x2.3 ∧ x2.3 ≤ x2.2) ∧ x2.2 = (↑(List.length
xs / 8) : Int) ∧ x2.1 = wC a.1 (xs ++ [(1 : Int)]) (Int.toNat x2.3)) ∧ ((0 = 0 ∧ Z4 a.2 ∧ x2.2 = x1 ∧ x2.3 = 0 ∧ True) ∧ ((True ∧ x2.1.1 = a.1.1 ∧ x2.1.2 = a.1.2 ∧ x2.1.3 = a.1.3 ∧
x2.1.4 = a.1.4 ∧ True) ∧ ZF a.2.5 ∧ True) ∧ True) ∧ ∀ (x3 : HL), (0 ≤ x3.3 ∧ x3.3 ≤ x3.2) ∧ x3.2 = (↑(List.length xs / 8) : Int) ∧ x3.1 = wC a.1 (xs ++ [(1 : Int)]) (Int.toNat
x3.3) → (x3.3 < x3.2 → ∀ x4, x4 = IntKind.wrap .i64 (x3.3 * (8 : Int)) → ∀ x5, x5 = IntKind.wrap .i64 (x3.3 * (8 : Int)) → ∀ x6, x6 = IntKind.wrap .i64 (x5 + (8 : Int)) → (a.2.1 =
true → (x4 = (0 : Int) ∧ x6 = (0 : Int)) ∧ False) ∧ (a.2.1 = false → (((0 : Int) ≤ x4 ∧ x4 ≤ x6 ∧ x6 ≤ (↑a.2.4 : Int)) ∧ (false = true → x6 ≤ (↑a.2.3 : Int) ∧ (x4 = (0 : Int) ∨ x4
< (↑a.2.4 : Int)))) ∧ ∀ (x7 x8 x9 : Nat), (x7 = if SA.k (WSA.s a) = Int.toNat x4 then a.2.2 else a.2.2 + Int.toNat x4 * 1) → x8 = Int.toNat x6 - Int.toNat x4 → x9 = a.2.4 -
Int.toNat x4 → 8 ≤ x8 ∧ ∃ (x10 : Int), Rd a.2.5 (Nat.add x7 0) (Value.int IntKind.u8 x10) ∧ ∃ (x11 : Int), Rd a.2.5 (Nat.add x7 1) (Value.int IntKind.u8 x11) ∧ ∃ (x12 : Int), Rd
a.2.5 (Nat.add x7 2) (Value.int IntKind.u8 x12) ∧ ∃ (x13 : Int), Rd a.2.5 (Nat.add x7 3) (Value.int IntKind.u8 x13) ∧ ∃ (x14 : Int), Rd a.2.5 (Nat.add x7 4) (Value.int IntKind.u8
x14) ∧ ∃ (x15 : Int), Rd a.2.5 (Nat.add x7 5) (Value.int IntKind.u8 x15) ∧ ∃ (x16 : Int), Rd a.2.5 (Nat.add x7 6) (Value.int IntKind.u8 x16) ∧ ∃ (x17 : Int), Rd a.2.5 (Nat.add x7
7) (Value.int IntKind.u8 x17) ∧ (True ∧ D8.Ok (D8.mk x10 x11 x12 x13 x14 x15 x16 x17) ∧ True) ∧ (((x10 = x10 ∧ x11 = x11 ∧ x12 = x12 ∧ x13 = x13 ∧ x14 = x14 ∧ x15 = x15 ∧ x16 = x16
∧ x17 = x17 ∧ True) ∧ True) ∧ True) ∧ (∀ (x18 : Unit), True → (True ∧ True) ∧ ((0 = 0 ∧ dnum [x10, x11, x12, x13, x14, x15, x16, x17] = dnum [x10, x11, x12, x13, x14, x15, x16,
x17] ∧ True) ∧ (True ∧ x3.1.1 = x3.1.1 ∧ x3.1.2 = x3.1.2 ∧ x3.1.3 = x3.1.3 ∧ x3.1.4 = x3.1.4 ∧ True) ∧ True) ∧ (∀ (x19 : W4), x19 = takeC (W4.mk x3.1.1 x3.1.2 x3.1.3 x3.1.4) (dnum
[x10, x11, x12, x13, x14, x15, x16, x17]) → ∀ x20, x20 = IntKind.wrap .i64 (x3.3 + (1 : Int)) → ∃ (x21 : HL), ((0 ≤ x21.3 ∧ x21.3 ≤ x21.2) ∧ x21.2 = (↑(List.length xs / 8) : Int) ∧
x21.1 = wC a.1 (xs ++ [(1 : Int)]) (Int.toNat x21.3)) ∧ Int.toNat (x21.2 - x21.3) < Int.toNat (x3.2 - x3.3) ∧ (0 = 0 ∧ Z4 a.2 ∧ x21.2 = x3.2 ∧ x21.3 = x20 ∧ True) ∧ ((True ∧
x21.1.1 = x19.1 ∧ x21.1.2 = x19.2 ∧ x21.1.3 = x19.3 ∧ x21.1.4 = x19.4 ∧ True) ∧ ZF a.2.5 ∧ True) ∧ True) ∧ True) ∧ True)) ∧ (¬x3.3 < x3.2 → ∃ (x22 : W4), (∀ (x23 : List Int), SB
a.2.1 a.2.2 a.2.3 a.2.4 a.2.5 x23 → x22 = wC a.1 (x23 ++ [(1 : Int)]) (List.length x23 / 8)) ∧ True ∧ (True ∧ x22.1 = x3.1.1 ∧ x22.2 = x3.1.2 ∧ x22.3 = x3.1.3 ∧ x22.4 = x3.1.4 ∧
True) ∧ ZF a.2.5 ∧ True)) := by kernel_rfl
set_option maxHeartbeats 3200000 in
theorem vc_end (a : WSA) (xs : List Int) : G_end a xs = (∀ (x0 : Int), x0 = (↑a.2.3 : Int) → (8 : Int) ≠ (0 : Int) ∧ ∀ x1, x1 = IntKind.wrap .i64 (Int.tdiv x0 (8 : Int)) → ∀ x2, x2 = IntKind.wrap .i64 (x1 * (8 : Int)) → (a.2.1 = true →
(x2 = (0 : Int) ∧ (0 : Int) = 0) ∧ (True ∧ True ∧ True ∧ True ∧ True ∧ True ∧ True ∧ True ∧ True ∧ True) ∧ (∃ (x3 : CL), HW (Value.int IntKind.u8) x3.1 [List.getD (xs ++ [(1 :
Int)]) (8 * (List.length xs / 8)) (0 : Int), List.getD (xs ++ [(1 : Int)]) (8 * (List.length xs / 8) + 1) (0 : Int), List.getD (xs ++ [(1 : Int)]) (8 * (List.length xs / 8) + 2) (0
: Int), List.getD (xs ++ [(1 : Int)]) (8 * (List.length xs / 8) + 3) (0 : Int), List.getD (xs ++ [(1 : Int)]) (8 * (List.length xs / 8) + 4) (0 : Int), List.getD (xs ++ [(1 :
Int)]) (8 * (List.length xs / 8) + 5) (0 : Int), List.getD (xs ++ [(1 : Int)]) (8 * (List.length xs / 8) + 6) (0 : Int), List.getD (xs ++ [(1 : Int)]) (8 * (List.length xs / 8) +
7) (0 : Int)] ∧ (0 = 0 ∧ Z4 a.2 ∧ 0 = 0 ∧ True) ∧ ((True ∧ a.1.1 = a.1.1 ∧ a.1.2 = a.1.2 ∧ a.1.3 = a.1.3 ∧ a.1.4 = a.1.4 ∧ True) ∧ ZF a.2.5 ∧ (True ∧ FlatL x3.1 ∧ x3.1 = [Value.int
IntKind.u8 (1 : Int), Value.int IntKind.u8 (0 : Int), Value.int IntKind.u8 (0 : Int), Value.int IntKind.u8 (0 : Int), Value.int IntKind.u8 (0 : Int), Value.int IntKind.u8 (0 :
Int), Value.int IntKind.u8 (0 : Int), Value.int IntKind.u8 (0 : Int)]) ∧ True) ∧ True) ∧ ∀ (x4 : CL), HW (Value.int IntKind.u8) x4.1 [List.getD (xs ++ [(1 : Int)]) (8 *
(List.length xs / 8)) (0 : Int), List.getD (xs ++ [(1 : Int)]) (8 * (List.length xs / 8) + 1) (0 : Int), List.getD (xs ++ [(1 : Int)]) (8 * (List.length xs / 8) + 2) (0 : Int),
List.getD (xs ++ [(1 : Int)]) (8 * (List.length xs / 8) + 3) (0 : Int), List.getD (xs ++ [(1 : Int)]) (8 * (List.length xs / 8) + 4) (0 : Int), List.getD (xs ++ [(1 : Int)]) (8 *
(List.length xs / 8) + 5) (0 : Int), List.getD (xs ++ [(1 : Int)]) (8 * (List.length xs / 8) + 6) (0 : Int), List.getD (xs ++ [(1 : Int)]) (8 * (List.length xs / 8) + 7) (0 : Int)]
→ ∃ (x5 : Int), Rd x4.1 0 (Value.int IntKind.u8 x5) ∧ ∃ (x6 : Int), Rd x4.1 1 (Value.int IntKind.u8 x6) ∧ ∃ (x7 : Int), Rd x4.1 2 (Value.int IntKind.u8 x7) ∧ ∃ (x8 : Int), Rd x4.1
3 (Value.int IntKind.u8 x8) ∧ ∃ (x9 : Int), Rd x4.1 4 (Value.int IntKind.u8 x9) ∧ ∃ (x10 : Int), Rd x4.1 5 (Value.int IntKind.u8 x10) ∧ ∃ (x11 : Int), Rd x4.1 6 (Value.int
IntKind.u8 x11) ∧ ∃ (x12 : Int), Rd x4.1 7 (Value.int IntKind.u8 x12) ∧ (True ∧ D8.Ok (D8.mk x5 x6 x7 x8 x9 x10 x11 x12) ∧ True) ∧ (((x5 = x5 ∧ x6 = x6 ∧ x7 = x7 ∧ x8 = x8 ∧ x9 =
x9 ∧ x10 = x10 ∧ x11 = x11 ∧ x12 = x12 ∧ True) ∧ True) ∧ True) ∧ (∀ (x13 : Unit), True → (True ∧ True) ∧ ((0 = 0 ∧ dnum [x5, x6, x7, x8, x9, x10, x11, x12] = dnum [x5, x6, x7, x8,
x9, x10, x11, x12] ∧ True) ∧ (True ∧ a.1.1 = a.1.1 ∧ a.1.2 = a.1.2 ∧ a.1.3 = a.1.3 ∧ a.1.4 = a.1.4 ∧ True) ∧ True) ∧ (∀ (x14 : W4), x14 = takeC (W4.mk a.1.1 a.1.2 a.1.3 a.1.4)
(dnum [x5, x6, x7, x8, x9, x10, x11, x12]) → ∀ (x15 : Int), x15 = (↑a.2.3 : Int) → ∀ x16, x16 = IntKind.wrap .u64 x15 → (True ∧ True) ∧ ((0 = 0 ∧ x16 = x16 ∧ True) ∧ (True ∧ x14.1
= x14.1 ∧ x14.2 = x14.2 ∧ x14.3 = x14.3 ∧ x14.4 = x14.4 ∧ True) ∧ True) ∧ (∀ (x17 : W4), x17 = takeC (W4.mk x14.1 x14.2 x14.3 x14.4) x16 → ∃ (x18 : W4), (∀ (x19 : List Int), SB
a.2.1 a.2.2 a.2.3 a.2.4 a.2.5 x19 → x18 = endW a.1 x19) ∧ True ∧ (True ∧ x18.1 = x17.1 ∧ x18.2 = x17.2 ∧ x18.3 = x17.3 ∧ x18.4 = x17.4 ∧ True) ∧ ZF a.2.5 ∧ True) ∧ True) ∧ True) ∧
True) ∧ (a.2.1 = false → (((0 : Int) ≤ x2 ∧ x2 ≤ (↑a.2.3 : Int) ∧ (↑a.2.3 : Int) ≤ (↑a.2.4 : Int)) ∧ (false = true → (↑a.2.3 : Int) ≤ (↑a.2.3 : Int) ∧ (x2 = (0 : Int) ∨ x2 <
(↑a.2.4 : Int)))) ∧ ∀ (x20 x21 x22 : Nat), (x20 = if SA.k (WSA.s a) = Int.toNat x2 then a.2.2 else a.2.2 + Int.toNat x2 * 1) → x21 = Int.toNat (↑a.2.3 : Int) - Int.toNat x2 → x22 =
a.2.4 - Int.toNat x2 → ∀ (x23 : Nat), x23 = Min.min x21 8 → x20 + x23 * 1 ≤ List.length a.2.5 ∧ ∀ (x24 : List Value), x24 = lwin a.2.5 x20 (x23 * 1) → (true = true ∧ lall oneK x24
= true ∧ 0 + List.length x24 ≤ 8) ∧ ∀ (x25 : List Value), x25 = lput (Array.toList #[Value.int IntKind.u8 (0 : Int), Value.int IntKind.u8 (0 : Int), Value.int IntKind.u8 (0 : Int),
Value.int IntKind.u8 (0 : Int), Value.int IntKind.u8 (0 : Int), Value.int IntKind.u8 (0 : Int), Value.int IntKind.u8 (0 : Int), Value.int IntKind.u8 (0 : Int)]) 0 x24 → (True ∧
True ∧ True ∧ True ∧ True ∧ True ∧ True ∧ True ∧ True ∧ True) ∧ (((0 : Int) ≤ (↑x23 : Int) ∧ (↑x23 : Int) < (8 : Int)) ∧ ∀ (x26 : Nat), x26 = 0 + Int.toNat (↑x23 : Int) * 1 → x26 +
1 ≤ List.length x25 ∧ ∀ (x27 : List Value), x27 = lput x25 x26 [Value.int IntKind.u8 (1 : Int)] → ∃ (x28 : CL), HW (Value.int IntKind.u8) x28.1 [List.getD (xs ++ [(1 : Int)]) (8 *
(List.length xs / 8)) (0 : Int), List.getD (xs ++ [(1 : Int)]) (8 * (List.length xs / 8) + 1) (0 : Int), List.getD (xs ++ [(1 : Int)]) (8 * (List.length xs / 8) + 2) (0 : Int),
List.getD (xs ++ [(1 : Int)]) (8 * (List.length xs / 8) + 3) (0 : Int), List.getD (xs ++ [(1 : Int)]) (8 * (List.length xs / 8) + 4) (0 : Int), List.getD (xs ++ [(1 : Int)]) (8 *
(List.length xs / 8) + 5) (0 : Int), List.getD (xs ++ [(1 : Int)]) (8 * (List.length xs / 8) + 6) (0 : Int), List.getD (xs ++ [(1 : Int)]) (8 * (List.length xs / 8) + 7) (0 : Int)]
∧ (0 = 0 ∧ Z4 a.2 ∧ 0 = 0 ∧ True) ∧ ((True ∧ a.1.1 = a.1.1 ∧ a.1.2 = a.1.2 ∧ a.1.3 = a.1.3 ∧ a.1.4 = a.1.4 ∧ True) ∧ ZF a.2.5 ∧ (True ∧ FlatL x28.1 ∧ x28.1 = x27) ∧ True) ∧ True) ∧
∀ (x29 : CL), HW (Value.int IntKind.u8) x29.1 [List.getD (xs ++ [(1 : Int)]) (8 * (List.length xs / 8)) (0 : Int), List.getD (xs ++ [(1 : Int)]) (8 * (List.length xs / 8) + 1) (0 :
Int), List.getD (xs ++ [(1 : Int)]) (8 * (List.length xs / 8) + 2) (0 : Int), List.getD (xs ++ [(1 : Int)]) (8 * (List.length xs / 8) + 3) (0 : Int), List.getD (xs ++ [(1 : Int)])
(8 * (List.length xs / 8) + 4) (0 : Int), List.getD (xs ++ [(1 : Int)]) (8 * (List.length xs / 8) + 5) (0 : Int), List.getD (xs ++ [(1 : Int)]) (8 * (List.length xs / 8) + 6) (0 :
Int), List.getD (xs ++ [(1 : Int)]) (8 * (List.length xs / 8) + 7) (0 : Int)] → ∃ (x30 : Int), Rd x29.1 0 (Value.int IntKind.u8 x30) ∧ ∃ (x31 : Int), Rd x29.1 1 (Value.int
IntKind.u8 x31) ∧ ∃ (x32 : Int), Rd x29.1 2 (Value.int IntKind.u8 x32) ∧ ∃ (x33 : Int), Rd x29.1 3 (Value.int IntKind.u8 x33) ∧ ∃ (x34 : Int), Rd x29.1 4 (Value.int IntKind.u8 x34)
∧ ∃ (x35 : Int), Rd x29.1 5 (Value.int IntKind.u8 x35) ∧ ∃ (x36 : Int), Rd x29.1 6 (Value.int IntKind.u8 x36) ∧ ∃ (x37 : Int), Rd x29.1 7 (Value.int IntKind.u8 x37) ∧ (True ∧ D8.Ok
(D8.mk x30 x31 x32 x33 x34 x35 x36 x37) ∧ True) ∧ (((x30 = x30 ∧ x31 = x31 ∧ x32 = x32 ∧ x33 = x33 ∧ x34 = x34 ∧ x35 = x35 ∧ x36 = x36 ∧ x37 = x37 ∧ True) ∧ True) ∧ True) ∧ (∀ (x38
: Unit), True → (True ∧ True) ∧ ((0 = 0 ∧ dnum [x30, x31, x32, x33, x34, x35, x36, x37] = dnum [x30, x31, x32, x33, x34, x35, x36, x37] ∧ True) ∧ (True ∧ a.1.1 = a.1.1 ∧ a.1.2 =
a.1.2 ∧ a.1.3 = a.1.3 ∧ a.1.4 = a.1.4 ∧ True) ∧ True) ∧ (∀ (x39 : W4), x39 = takeC (W4.mk a.1.1 a.1.2 a.1.3 a.1.4) (dnum [x30, x31, x32, x33, x34, x35, x36, x37]) → ∀ (x40 : Int),
x40 = (↑a.2.3 : Int) → ∀ x41, x41 = IntKind.wrap .u64 x40 → (True ∧ True) ∧ ((0 = 0 ∧ x41 = x41 ∧ True) ∧ (True ∧ x39.1 = x39.1 ∧ x39.2 = x39.2 ∧ x39.3 = x39.3 ∧ x39.4 = x39.4 ∧
True) ∧ True) ∧ (∀ (x42 : W4), x42 = takeC (W4.mk x39.1 x39.2 x39.3 x39.4) x41 → ∃ (x43 : W4), (∀ (x44 : List Int), SB a.2.1 a.2.2 a.2.3 a.2.4 a.2.5 x44 → x43 = endW a.1 x44) ∧
True ∧ (True ∧ x43.1 = x42.1 ∧ x43.2 = x42.2 ∧ x43.3 = x42.3 ∧ x43.4 = x42.4 ∧ True) ∧ ZF a.2.5 ∧ True) ∧ True) ∧ True) ∧ True)) := by kernel_rfl
theorem vc_hof (a : SA) : G_hof a = ((True ∧ (∃ (x0 : List Int), SB a.1 a.2 a.3 a.4 a.5 x0 ∧ ∀ (x1 : Int), x1 ∈ x0 → (0 : Int) ≤ x1 ∧ x1 ≤ (255 : Int)) ∧ a.3 ≤ 100000) ∧ ((0 = 0 ∧ Z4 a ∧ True) ∧ (True ∧ Int.ofNat
2611923443488327891 = (2611923443488327891 : Int) ∧ Int.ofNat 1376283091369227076 = (1376283091369227076 : Int) ∧ Int.ofNat 11820040416388919760 = (11820040416388919760 : Int) ∧
Int.ofNat 1 = (1 : Int) ∧ True) ∧ ZF a.5 ∧ True) ∧ (∀ (x2 : W4), (∀ (x3 : List Int), SB a.1 a.2 a.3 a.4 a.5 x3 → x2 = wC (W4.mk (2611923443488327891 : Int) (1376283091369227076 :
Int) (11820040416388919760 : Int) (1 : Int)) (x3 ++ [(1 : Int)]) (List.length x3 / 8)) → (True ∧ (∃ (x4 : List Int), SB a.1 a.2 a.3 a.4 a.5 x4 ∧ ∀ (x5 : Int), x5 ∈ x4 → (0 : Int) ≤
x5 ∧ x5 ≤ (255 : Int)) ∧ a.3 ≤ 100000) ∧ ((0 = 0 ∧ Z4 a ∧ True) ∧ (True ∧ x2.1 = x2.1 ∧ x2.2 = x2.2 ∧ x2.3 = x2.3 ∧ x2.4 = x2.4 ∧ True) ∧ ZF a.5 ∧ True) ∧ (∀ (x6 : W4), (∀ (x7 :
List Int), SB a.1 a.2 a.3 a.4 a.5 x7 → x6 = endW (W4.mk x2.1 x2.2 x2.3 x2.4) x7) → ∀ x8, x8 = IntKind.wrap .u64 (bitsOf BinOp.xor IntKind.u64 x6.1 x6.3) → (True ∧ ((0 : Int) ≤ x8 ∧
x8 < (18446744073709551616 : Int)) ∧ True) ∧ ((x8 = x8 ∧ True) ∧ True) ∧ (∀ (x9 : Unit), True → (True ∧ True ∧ True ∧ True ∧ True ∧ True ∧ True ∧ True ∧ True ∧ True ∧ True ∧ True)
∧ ∃ (x10 : D8), (∀ (x11 : List Int), SB a.1 a.2 a.3 a.4 a.5 x11 → x10 = ofC x11) ∧ (x10.1 = x8 % (256 : Int) ∧ x10.2 = x8 / (256 : Int) % (256 : Int) ∧ x10.3 = x8 / (65536 : Int) %
(256 : Int) ∧ x10.4 = x8 / (16777216 : Int) % (256 : Int) ∧ x10.5 = x8 / (4294967296 : Int) % (256 : Int) ∧ x10.6 = x8 / (1099511627776 : Int) % (256 : Int) ∧ x10.7 = x8 /
(281474976710656 : Int) % (256 : Int) ∧ x10.8 = x8 / (72057594037927936 : Int) % (256 : Int) ∧ True) ∧ True) ∧ True) ∧ True) ∧ True) := by kernel_rfl
theorem g_takeA (a : WN) : G_takeA a := by
  rw [vc_takeA]
  intro x0 e0
  refine ⟨?_, ⟨trivial, trivial⟩, ?_, fun x1 e1 => ⟨takeC a.w a.n, rfl, trivial, ?_, trivial⟩, trivial⟩
  · repeat' first | with_reducible apply And.intro | exact trivial | exact rfl | assumption
  · repeat' first | with_reducible apply And.intro | exact trivial | exact rfl | assumption
  · subst e0 e1
    exact ⟨trivial, rfl, rfl, rfl, rfl, trivial⟩
theorem s_takeA : SpecOK Tryz.prog S_takeA.spec := fun a => specD_at (an := []) envOK (cwD_ok s_stirA cw0_ok) fun _ => g_takeA a
theorem g_inB (a : WN) : G_inB a := by
  rw [vc_inB]
  intro x0 e0
  refine ⟨⟨trivial, trivial⟩, ?_, fun x1 e1 => ⟨takeC a.w a.n, rfl, ?_, trivial⟩, trivial⟩
  · repeat' first | with_reducible apply And.intro | exact trivial | exact rfl | assumption
  · subst e0 e1
    exact ⟨rfl, rfl, rfl, rfl, trivial⟩
theorem s_inB : SpecOK Tryz.prog S_inB.spec := fun a => specD_at (an := []) envOK (cwD_ok s_stirB cw0_ok) fun _ => g_inB a
theorem byt1 {xs : List Int} (h : Byts8 xs) (i : Nat) : byt ((xs ++ [1]).getD i 0) := by
  by_cases hi : i < (xs ++ [1]).length
  · rw [getD_get hi]
    rcases List.mem_append.1 (List.getElem_mem hi) with h1 | h1
    · exact h _ h1
    · rw [List.mem_singleton.1 h1]; exact ⟨by decide, by decide⟩
  · have : (xs ++ [1]).getD i 0 = 0 := by simp only [List.getD]; rw [List.getElem?_eq_none (by omega)]; rfl
    rw [this]; exact ⟨by decide, by decide⟩
theorem chk_ok {xs : List Int} (h : Byts8 xs) (i : Nat) : (chk (xs ++ [1]) i).Ok := ⟨byt1 h _, byt1 h _, byt1 h _, byt1 h _, byt1 h _, byt1 h _, byt1 h _, byt1 h _⟩
theorem get1 {xs : List Int} {i : Nat} (h : i < xs.length) : (xs ++ [1]).getD i 0 = xs[i] := by
  rw [getD_get (by simp; omega), List.getElem_append_left h]
theorem g_whole (a : WSA) (xs : List Int) (hx : Sli (Value.int .u8) 1 a.s.n a.s.o a.s.l a.s.k a.s.c xs) (hb : Byts8 xs) (hl : a.s.l ≤ 100000) : G_whole a xs := by
  have hlen : xs.length = a.s.l := by have := hx.len; omega
  have fl := hx.flat
  have hcap := hx.cap
  rw [vc_whole]
  intro x0 e0
  refine ⟨by decide, fun x1 e1 => ?_⟩
  have hx1 : x1 = ((xs.length / 8 : Nat) : Int) := by
    rw [tdiv_pos (by omega), wrap_sm (by omega)] at e1
    omega
  refine ⟨⟨a.w, x1, 0⟩, ⟨⟨by show (0 : Int) ≤ 0; decide, by show (0 : Int) ≤ x1; omega⟩, hx1, rfl⟩, ?_, ?_⟩
  · repeat' first | with_reducible apply And.intro | exact trivial | exact rfl | assumption
  rintro ⟨w, n, i⟩ ⟨⟨hi0, hi1⟩, hn, hw⟩
  dsimp only at hi0 hi1 hn hw ⊢
  refine ⟨fun hlt x4 e4 x5 e5 x6 e6 => ?_, fun hge => ?_⟩
  · rw [wrap_sm (by omega)] at e4 e5
    rw [wrap_sm (by omega)] at e6
    refine ⟨fun hnn => ?_, fun hnn => ⟨⟨⟨by omega, by omega, by omega⟩, fun h => nomatch h⟩, fun x7 x8 x9 e7 e8 e9 => ?_⟩⟩
    · have := (hx.nil hnn).1
      omega
    · have h7 : x7 = a.s.o + 8 * i.toNat := by
        rw [e7]
        have : ¬ a.s.k = x4.toNat := by omega
        show (if a.s.k = x4.toNat then a.s.o else a.s.o + x4.toNat * 1) = _
        rw [if_neg this]; omega
      have rd : ∀ j, j < 8 → Rd a.s.c (Nat.add x7 j) (.int .u8 ((xs ++ [1]).getD (8 * i.toNat + j) 0)) := fun j hj => by
        have hj' : 8 * i.toNat + j < xs.length := by omega
        have := hx.at_.get hj'
        rw [get1 hj', show Nat.add x7 j = a.s.o + (8 * i.toNat + j) by show x7 + j = _; omega]
        exact this
      refine ⟨by omega, _, rd 0 (by decide), _, rd 1 (by decide), _, rd 2 (by decide), _, rd 3 (by decide), _, rd 4 (by decide), _, rd 5 (by decide), _, rd 6 (by decide), _, rd 7 (by decide), ⟨trivial, chk_ok hb i.toNat, trivial⟩, ?_, fun _ _ => ⟨⟨trivial, trivial⟩, ?_, fun x19 e19 x20 e20 => ?_, trivial⟩, trivial⟩
      · repeat' first | with_reducible apply And.intro | exact trivial | exact rfl | assumption
      · repeat' first | with_reducible apply And.intro | exact trivial | exact rfl | assumption
      · rw [wrap_sm (by omega)] at e20
        refine ⟨⟨x19, n, x20⟩, ⟨⟨by show 0 ≤ x20; omega, by show x20 ≤ n; omega⟩, hn, ?_⟩, by show (n - x20).toNat < (n - i).toNat; omega, ?_⟩
        · show x19 = wC a.w (xs ++ [1]) x20.toNat
          rw [show x20.toNat = i.toNat + 1 by omega, e19]
          show takeC w _ = takeC (wC a.w (xs ++ [1]) i.toNat) (dnum (chk (xs ++ [1]) i.toNat).l)
          rw [← hw]; rfl
        · repeat' first | with_reducible apply And.intro | exact trivial | exact rfl | assumption
  · refine ⟨w, fun ys hy => ?_, ?_⟩
    · rw [Sli.uniqI hy hx, hw, show i.toNat = xs.length / 8 by omega]
    · repeat' first | with_reducible apply And.intro | exact trivial | exact rfl | assumption
theorem s_whole : SpecOK Tryz.prog S_whole.spec := fun a K hp hq => by
  obtain ⟨⟨xs, hx, hb⟩, hl⟩ := hp
  exact specD_at (an := [some (la_whole a xs)]) envOK (cwD_ok s_takeA (cwD_ok s_hnum cw0_ok)) (fun _ => g_whole a xs hx hb hl) K ⟨⟨xs, hx, hb⟩, hl⟩ hq
theorem HW.takeN {α : Type} {f : α → Value} {c : List Value} {xs : List α} (h : HW f c xs) (n : Nat) : HW f (c.take n) (xs.take n) := by
  refine ⟨by rw [List.length_take, List.length_take, h.len], fun i x hx => ?_⟩
  rw [List.getElem?_take] at hx
  split at hx
  · rename_i hi
    have := h.at_ i x hx
    rw [Nat.zero_add] at this ⊢
    unfold Rd at this ⊢
    rw [List.getElem?_take_of_lt hi]; exact this
  · cases hx
theorem HW.dropN {α : Type} {f : α → Value} {c : List Value} {xs : List α} (h : HW f c xs) (n : Nat) : HW f (c.drop n) (xs.drop n) := by
  refine ⟨by rw [List.length_drop, List.length_drop, h.len], fun i x hx => ?_⟩
  rw [List.getElem?_drop] at hx
  have := h.at_ (n + i) x hx
  rw [Nat.zero_add] at this ⊢
  unfold Rd at this ⊢
  rw [List.getElem?_drop]; exact this
theorem HW.putL {α : Type} {f : α → Value} {c vs : List Value} {xs zs : List α} (h : HW f c xs) (g : HW f vs zs) (o : Nat) : HW f (lput c o vs) (xs.take o ++ (zs ++ xs.drop (o + zs.length))) := by
  unfold lput
  rw [g.len]
  exact (HW.takeN h o).append (g.append (HW.dropN h _))
theorem HW.oneC {α : Type} {f : α → Value} {z : α} : HW f [f z] [z] := ⟨rfl, fun i x h => by
  cases i with
  | zero => cases h; exact .inl rfl
  | succ i => simp at h⟩
def z8l : List Int := [0, 0, 0, 0, 0, 0, 0, 0]
theorem he_n8 (x0 x1 x2 x3 x4 x5 x6 x7 : Int) : HE .u8 [.int .u8 x0, .int .u8 x1, .int .u8 x2, .int .u8 x3, .int .u8 x4, .int .u8 x5, .int .u8 x6, .int .u8 x7] [x0, x1, x2, x3, x4, x5, x6, x7] :=
  HW.oneC.append (HW.oneC.append (HW.oneC.append (HW.oneC.append (HW.oneC.append (HW.oneC.append (HW.oneC.append HW.oneC))))))
theorem pad8 (ds : List Int) (h : ds.length < 8) : ((z8l.take 0 ++ (ds ++ z8l.drop (0 + ds.length))).take ds.length ++ ([1] ++ (z8l.take 0 ++ (ds ++ z8l.drop (0 + ds.length))).drop (ds.length + [(1 : Int)].length)))
    = [(ds ++ [1]).getD 0 0, (ds ++ [1]).getD 1 0, (ds ++ [1]).getD 2 0, (ds ++ [1]).getD 3 0, (ds ++ [1]).getD 4 0, (ds ++ [1]).getD 5 0, (ds ++ [1]).getD 6 0, (ds ++ [1]).getD 7 0] := by
  match ds, h with
  | [], _ => rfl
  | [_], _ => rfl
  | [_, _], _ => rfl
  | [_, _, _], _ => rfl
  | [_, _, _, _], _ => rfl
  | [_, _, _, _, _], _ => rfl
  | [_, _, _, _, _, _], _ => rfl
  | [_, _, _, _, _, _, _], _ => rfl
  | _ :: _ :: _ :: _ :: _ :: _ :: _ :: _ :: l, h => simp at h; omega
theorem getD_drop1 (xs : List Int) (q j : Nat) (h : q ≤ xs.length) : (xs ++ [1]).getD (q + j) 0 = (xs.drop q ++ [1]).getD j 0 := by
  have e : xs ++ [1] = xs.take q ++ (xs.drop q ++ [1]) := by rw [← List.append_assoc, List.take_append_drop]
  have hq : (xs.take q).length = q := by rw [List.length_take]; omega
  simp only [List.getD]
  rw [e, List.getElem?_append_right (by omega), hq, show q + j - q = j by omega]
theorem chk_drop (xs : List Int) (i : Nat) (h : 8 * i ≤ xs.length) : (chk (xs ++ [1]) i).l = [(xs.drop (8 * i) ++ [1]).getD 0 0, (xs.drop (8 * i) ++ [1]).getD 1 0, (xs.drop (8 * i) ++ [1]).getD 2 0, (xs.drop (8 * i) ++ [1]).getD 3 0, (xs.drop (8 * i) ++ [1]).getD 4 0, (xs.drop (8 * i) ++ [1]).getD 5 0, (xs.drop (8 * i) ++ [1]).getD 6 0, (xs.drop (8 * i) ++ [1]).getD 7 0] := by
  rw [← getD_drop1 xs _ 0 h, ← getD_drop1 xs _ 1 h, ← getD_drop1 xs _ 2 h, ← getD_drop1 xs _ 3 h, ← getD_drop1 xs _ 4 h, ← getD_drop1 xs _ 5 h, ← getD_drop1 xs _ 6 h, ← getD_drop1 xs _ 7 h]
  rfl
theorem he_last {xs : List Int} {c : List Value} {vs : List Value} (hc : HE .u8 vs (xs.drop (8 * (xs.length / 8)))) (e : c = lput (lput [.int .u8 0, .int .u8 0, .int .u8 0, .int .u8 0, .int .u8 0, .int .u8 0, .int .u8 0, .int .u8 0] 0 vs) (xs.drop (8 * (xs.length / 8))).length [.int .u8 1]) : HE .u8 c (chk (xs ++ [1]) (xs.length / 8)).l := by
  rw [chk_drop xs _ (by omega), ← pad8 _ (by rw [List.length_drop]; omega), e]
  exact HW.putL (HW.putL (he_n8 0 0 0 0 0 0 0 0) hc 0) HW.oneC _
theorem g_end (a : WSA) (xs : List Int) (hx : Sli (Value.int .u8) 1 a.s.n a.s.o a.s.l a.s.k a.s.c xs) (hb : Byts8 xs) (hl : a.s.l ≤ 100000) : G_end a xs := by
  have hlen : xs.length = a.s.l := by have := hx.len; omega
  have fl := hx.flat
  have hcap := hx.cap
  rw [vc_end]
  intro x0 e0
  refine ⟨by decide, fun x1 e1 x2 e2 => ?_⟩
  have hx1 : x1 = ((xs.length / 8 : Nat) : Int) := by
    rw [tdiv_pos (by omega), wrap_sm (by omega)] at e1
    omega
  have hx2 : x2 = ((8 * (xs.length / 8) : Nat) : Int) := by
    rw [wrap_sm (by omega)] at e2
    omega
  refine ⟨fun hnn => ?_, fun hnn => ?_⟩
  · have h0 := (hx.nil hnn).1
    have hxs : xs = [] := List.eq_nil_of_length_eq_zero (by omega)
    refine ⟨⟨by omega, rfl⟩, ?_, ⟨⟨[.int .u8 1, .int .u8 0, .int .u8 0, .int .u8 0, .int .u8 0, .int .u8 0, .int .u8 0, .int .u8 0]⟩, ?_, ?_⟩, ?_⟩
    · repeat' first | with_reducible apply And.intro | exact trivial | exact rfl | assumption
    rotate_left
    · have h8 := (he_n8 1 0 0 0 0 0 0 0).flat
      repeat' first | with_reducible apply And.intro | exact trivial | exact rfl | assumption
    rotate_left
    · subst hxs
      exact he_n8 1 0 0 0 0 0 0 0
    rintro ⟨c⟩ hc
    have hf := hc.flat
    refine ⟨_, hc.at_ 0 _ rfl, _, hc.at_ 1 _ rfl, _, hc.at_ 2 _ rfl, _, hc.at_ 3 _ rfl, _, hc.at_ 4 _ rfl, _, hc.at_ 5 _ rfl, _, hc.at_ 6 _ rfl, _, hc.at_ 7 _ rfl, ⟨trivial, chk_ok hb _, trivial⟩, ?_, fun _ _ => ⟨⟨trivial, trivial⟩, ?_, fun x14 e14 x15 e15 x16 e16 => ⟨⟨trivial, trivial⟩, ?_, fun x17 e17 => ⟨x17, fun ys hy => ?_, ?_⟩, trivial⟩, trivial⟩, trivial⟩
    · repeat' first | with_reducible apply And.intro | exact trivial | exact rfl | assumption
    · repeat' first | with_reducible apply And.intro | exact trivial | exact rfl | assumption
    · repeat' first | with_reducible apply And.intro | exact trivial | exact rfl | assumption
    · rw [wrap_u64] at e16
      rw [Sli.uniqI hy hx, e17, e14, show x16 = (xs.length : Int) by omega]
      rfl
    · repeat' first | with_reducible apply And.intro | exact trivial | exact rfl | assumption
  · refine ⟨⟨⟨by omega, by omega, by omega⟩, fun h => nomatch h⟩, fun x20 x21 x22 e20 e21 e22 x23 e23 => ?_⟩
    have hfit := hx.fit hnn
    have h23 : x23 = xs.length - 8 * (xs.length / 8) := by rw [e23]; omega
    have hd : (xs.drop (8 * (xs.length / 8))).length = x23 := by rw [List.length_drop]; omega
    have h20 : x23 ≠ 0 → x20 = a.s.o + 8 * (xs.length / 8) := fun hne => by
      rw [e20]
      have : ¬ a.s.k = x2.toNat := by omega
      show (if a.s.k = x2.toNat then a.s.o else a.s.o + x2.toNat * 1) = _
      rw [if_neg this]; omega
    have h20' : x20 + x23 * 1 ≤ a.s.c.length := by
      by_cases hz : x23 = 0
      · rw [hz, e20]
        show (if a.s.k = x2.toNat then a.s.o else a.s.o + x2.toNat * 1) + 0 * 1 ≤ _
        split <;> omega
      · rw [h20 hz]; omega
    refine ⟨h20', fun x24 e24 => ?_⟩
    have hw : HE .u8 x24 (xs.drop (8 * (xs.length / 8))) := by
      rw [e24, Nat.mul_one, ← hd]
      refine HV.win (fun j z hz => ?_) (by rw [hd]; omega)
      have hj : j < (xs.drop (8 * (xs.length / 8))).length := (List.getElem?_eq_some_iff.1 hz).1
      rw [List.getElem?_drop] at hz
      have := hx.at_ _ z hz
      rw [h20 (by omega), Nat.add_assoc]; exact this
    have hwl := hw.len
    refine ⟨⟨rfl, hw.oneK, by omega⟩, fun x25 e25 => ⟨?_, ⟨⟨by omega, by omega⟩, fun x26 e26 => ?_⟩, ?_⟩⟩
    · repeat' first | with_reducible apply And.intro | exact trivial | exact rfl | assumption
    rotate_left
    · rintro ⟨c⟩ hc
      have hf := hc.flat
      refine ⟨_, hc.at_ 0 _ rfl, _, hc.at_ 1 _ rfl, _, hc.at_ 2 _ rfl, _, hc.at_ 3 _ rfl, _, hc.at_ 4 _ rfl, _, hc.at_ 5 _ rfl, _, hc.at_ 6 _ rfl, _, hc.at_ 7 _ rfl, ⟨trivial, chk_ok hb _, trivial⟩, ?_, fun _ _ => ⟨⟨trivial, trivial⟩, ?_, fun x14 e14 x15 e15 x16 e16 => ⟨⟨trivial, trivial⟩, ?_, fun x17 e17 => ⟨x17, fun ys hy => ?_, ?_⟩, trivial⟩, trivial⟩, trivial⟩
      · repeat' first | with_reducible apply And.intro | exact trivial | exact rfl | assumption
      · repeat' first | with_reducible apply And.intro | exact trivial | exact rfl | assumption
      · repeat' first | with_reducible apply And.intro | exact trivial | exact rfl | assumption
      · rw [wrap_u64] at e16
        rw [Sli.uniqI hy hx, e17, e14, show x16 = (xs.length : Int) by omega]
        rfl
      · repeat' first | with_reducible apply And.intro | exact trivial | exact rfl | assumption
    have h25 : x25.length = 8 := by
      rw [e25]
      have := (HW.putL (he_n8 0 0 0 0 0 0 0 0) hw 0).len
      show (lput [.int .u8 0, .int .u8 0, .int .u8 0, .int .u8 0, .int .u8 0, .int .u8 0, .int .u8 0, .int .u8 0] 0 x24).length = 8
      rw [this]; simp; omega
    refine ⟨by omega, fun x27 e27 => ?_⟩
    have h27 : HE .u8 x27 (chk (xs ++ [1]) (xs.length / 8)).l := he_last hw (by
      rw [e27, e25, show x26 = (xs.drop (8 * (xs.length / 8))).length by omega])
    refine ⟨⟨x27⟩, h27, ?_⟩
    have hf := h27.flat
    repeat' first | with_reducible apply And.intro | exact trivial | exact rfl | assumption
theorem s_end : SpecOK Tryz.prog S_end.spec := fun a K hp hq => by
  obtain ⟨⟨xs, hx, hb⟩, hl⟩ := hp
  exact specD_at (an := [some (joins [(3, j_end a xs)])]) envOK (cwD_ok s_takeA (cwD_ok s_hnum cw0_ok)) (fun _ => g_end a xs hx hb hl) K ⟨⟨xs, hx, hb⟩, hl⟩ hq
theorem xor_in (x y : Int) : 0 ≤ xorC x y ∧ xorC x y < 18446744073709551616 := by
  unfold xorC; rw [wrap_u64]; omega
theorem g_hof (a : SA) (xs : List Int) (hx : Sli (Value.int .u8) 1 a.n a.o a.l a.k a.c xs) (hb : Byts8 xs) (hl : a.l ≤ 100000) : G_hof a := by
  have fl := hx.flat
  rw [vc_hof]
  refine ⟨⟨trivial, ⟨xs, hx, hb⟩, hl⟩, ?_, fun x2 h2 => ⟨⟨trivial, ⟨xs, hx, hb⟩, hl⟩, ?_, fun x6 h6 x8 e8 => ⟨⟨trivial, ?_, trivial⟩, ?_, fun _ _ => ⟨?_, ofC xs, fun ys hy => by rw [Sli.uniqI hy hx], ?_, trivial⟩, trivial⟩, trivial⟩, trivial⟩
  · repeat' first | with_reducible apply And.intro | exact trivial | exact rfl | assumption
  · repeat' first | with_reducible apply And.intro | exact trivial | exact rfl | assumption
  · rw [e8]; exact xor_in _ _
  · repeat' first | with_reducible apply And.intro | exact trivial | exact rfl | assumption
  · repeat' first | with_reducible apply And.intro | exact trivial | exact rfl | assumption
  · have h2 := h2 xs hx
    have h6 := h6 xs hx
    have : x8 = xorC x6.w0 x6.w2 := e8
    have e : ofC xs = frm x8 := by rw [this, h6, h2]; rfl
    rw [e]
    exact ⟨rfl, rfl, rfl, rfl, rfl, rfl, rfl, rfl, trivial⟩
theorem s_hof : SpecOK Tryz.prog S_hof.spec := fun a K hp hq => by
  obtain ⟨⟨xs, hx, hb⟩, hl⟩ := hp
  exact specD_at (an := []) envOK (cwN_ok (fun _ h => cwD_ok s_whole (cwD_ok s_end (cwD_ok s_hfrom h))) 3) (fun _ => g_hof a xs hx hb hl) K ⟨⟨xs, hx, hb⟩, hl⟩ hq
end Go.Proofs.YtalbjjimnhldfaaGreatDoor
end
