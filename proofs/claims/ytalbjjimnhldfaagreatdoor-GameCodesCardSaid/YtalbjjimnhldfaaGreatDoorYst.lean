/- Digests: what is told of the states' stirring (what is to be shown; under way). -/
import Derived.Test.YtalbjjimnhldfaaGreatDoorYmv
section
set_option maxRecDepth 100000
namespace Go.Proofs.YtalbjjimnhldfaaGreatDoor
open Go.Ev
-- keep num stirC rotC xorC addC half1 half2 rndC
structure W4 where
  w0 : Int
  w1 : Int
  w2 : Int
  w3 : Int
def rotC (x p q : Int) : Int := IntKind.wrap .u64 (Go.Ev.bitsOf .or .u64 (IntKind.wrap .u64 (x * p)) (Int.fdiv x q))
def xorC (x y : Int) : Int := IntKind.wrap .u64 (Go.Ev.bitsOf .xor .u64 x y)
def addC (x y : Int) : Int := IntKind.wrap .u64 (x + y)
def half1 (r : Int) (w : W4) : W4 := ⟨xorC (addC w.w0 w.w1) r, rotC (xorC w.w1 (addC w.w2 (rotC (xorC w.w3 (xorC (addC w.w0 w.w1) r)) 4294967296 4294967296))) 16777216 1099511627776, addC w.w2 (rotC (xorC w.w3 (xorC (addC w.w0 w.w1) r)) 4294967296 4294967296), rotC (xorC w.w3 (xorC (addC w.w0 w.w1) r)) 4294967296 4294967296⟩
def half2 (w : W4) : W4 := ⟨addC w.w0 w.w1, rotC (xorC w.w1 (addC w.w2 (rotC (xorC w.w3 (addC w.w0 w.w1)) 65536 281474976710656))) 9223372036854775808 2, addC w.w2 (rotC (xorC w.w3 (addC w.w0 w.w1)) 65536 281474976710656), rotC (xorC w.w3 (addC w.w0 w.w1)) 65536 281474976710656⟩
def rndC (r : Int) (w : W4) : W4 := half2 (half1 r w)
def stirC (w : W4) : W4 := rndC 6 (rndC 5 (rndC 4 (rndC 3 (rndC 2 (rndC 1 w)))))
noncomputable section
abbrev W4.c (w : W4) : List Value := [tgI .u64 w.w0, tgI .u64 w.w1, tgI .u64 w.w2, tgI .u64 w.w3]
def S_stirA : SpecD where
  f := 84
  α := W4
  args _ := [.pointer (some ⟨12, 0, none⟩)]
  R a := [(12, .p (.row a.c 99 .own))]
  n := 12 + 1
  pre _ := True
  outs := [⟨W4, fun a b => b = stirC a, fun _ _ => .tuple ⟨[]⟩, fun _ b => [(12, .p (.row b.c 99 .own))], fun _ _ => 12 + 1, fun _ _ => []⟩]
  pick _ _ := 0
  find l A := ptK (lv l 0) fun b => rowK A b fun r => wI (lv r 0) fun a => wI (lv r 1) fun c => wI (lv r 2) fun d => wI (lv r 3) fun e => some (⟨a, c, d, e⟩, [(12, b)])
def G_stirA (a : W4) : Prop := fnW Tryz.prog E0 (cwN (fun c => c) 2) [] S_stirA.f (S_stirA.args a) (mem (S_stirA.R a) S_stirA.n) (endD Tryz.prog S_stirA a)
def S_stirB : SpecD where
  f := 132
  α := W4
  args a := [.agg ⟨a.c⟩]
  R _ := []
  n := 12
  pre _ := True
  outs := [⟨W4, fun a b => b = stirC a, fun _ b => .agg ⟨b.c⟩, fun _ _ => [], fun _ _ => 12, fun _ _ => []⟩]
  pick _ _ := 0
  find l _ := wI (lv (agv (lv l 0)) 0) fun a => wI (lv (agv (lv l 0)) 1) fun c => wI (lv (agv (lv l 0)) 2) fun d => wI (lv (agv (lv l 0)) 3) fun e => some (⟨a, c, d, e⟩, [])
def G_stirB (a : W4) : Prop := fnW Tryz.prog E0 (cwN (fun c => c) 2) [] S_stirB.f (S_stirB.args a) (mem (S_stirB.R a) S_stirB.n) (endD Tryz.prog S_stirB a)
end
end Go.Proofs.YtalbjjimnhldfaaGreatDoor
end

/- Digests: what is told of the states' stirring is so. -/
section
set_option maxRecDepth 100000
namespace Go.Proofs.YtalbjjimnhldfaaGreatDoor
open Go.Ev
set_option maxHeartbeats 3200000 in
theorem vc_stirA (a : W4) : G_stirA a = ((True ∧ True ∧ True ∧ True ∧ True ∧ True ∧ True ∧ True ∧ True ∧ True ∧ True ∧ True ∧ True ∧ True ∧ True ∧ True ∧ True ∧ True ∧ True ∧ True ∧ True) ∧ ∀ x0, x0 = IntKind.wrap .u64
(a.1 + a.2) → ∀ x1, x1 = IntKind.wrap .u64 (bitsOf BinOp.xor IntKind.u64 x0 (1 : Int)) → ∀ x2, x2 = IntKind.wrap .u64 (bitsOf BinOp.xor IntKind.u64 a.4 x1) → (0 : Int) ≤ (32 : Int)
∧ ∀ x3, x3 = IntKind.wrap .u64 (x2 * (4294967296 : Int)) → (0 : Int) ≤ (32 : Int) ∧ ∀ (x4 : Int), x4 = Int.fdiv x2 (4294967296 : Int) → ∀ x5, x5 = IntKind.wrap .u64 (bitsOf
BinOp.or IntKind.u64 x3 x4) → ∀ x6, x6 = IntKind.wrap .u64 (a.3 + x5) → ∀ x7, x7 = IntKind.wrap .u64 (bitsOf BinOp.xor IntKind.u64 a.2 x6) → (0 : Int) ≤ (24 : Int) ∧ ∀ x8, x8 =
IntKind.wrap .u64 (x7 * (16777216 : Int)) → (0 : Int) ≤ (40 : Int) ∧ ∀ (x9 : Int), x9 = Int.fdiv x7 (1099511627776 : Int) → ∀ x10, x10 = IntKind.wrap .u64 (bitsOf BinOp.or
IntKind.u64 x8 x9) → ∀ x11, x11 = IntKind.wrap .u64 (x1 + x10) → ∀ x12, x12 = IntKind.wrap .u64 (bitsOf BinOp.xor IntKind.u64 x5 x11) → (0 : Int) ≤ (16 : Int) ∧ ∀ x13, x13 =
IntKind.wrap .u64 (x12 * (65536 : Int)) → (0 : Int) ≤ (48 : Int) ∧ ∀ (x14 : Int), x14 = Int.fdiv x12 (281474976710656 : Int) → ∀ x15, x15 = IntKind.wrap .u64 (bitsOf BinOp.or
IntKind.u64 x13 x14) → ∀ x16, x16 = IntKind.wrap .u64 (x6 + x15) → ∀ x17, x17 = IntKind.wrap .u64 (bitsOf BinOp.xor IntKind.u64 x10 x16) → (0 : Int) ≤ (63 : Int) ∧ ∀ x18, x18 =
IntKind.wrap .u64 (x17 * (9223372036854775808 : Int)) → (0 : Int) ≤ (1 : Int) ∧ ∀ (x19 : Int), x19 = Int.fdiv x17 (2 : Int) → ∀ x20, x20 = IntKind.wrap .u64 (bitsOf BinOp.or
IntKind.u64 x18 x19) → ∀ x21, x21 = IntKind.wrap .u64 (x11 + x20) → ∀ x22, x22 = IntKind.wrap .u64 (bitsOf BinOp.xor IntKind.u64 x21 (2 : Int)) → ∀ x23, x23 = IntKind.wrap .u64
(bitsOf BinOp.xor IntKind.u64 x15 x22) → (0 : Int) ≤ (32 : Int) ∧ ∀ x24, x24 = IntKind.wrap .u64 (x23 * (4294967296 : Int)) → (0 : Int) ≤ (32 : Int) ∧ ∀ (x25 : Int), x25 = Int.fdiv
x23 (4294967296 : Int) → ∀ x26, x26 = IntKind.wrap .u64 (bitsOf BinOp.or IntKind.u64 x24 x25) → ∀ x27, x27 = IntKind.wrap .u64 (x16 + x26) → ∀ x28, x28 = IntKind.wrap .u64 (bitsOf
BinOp.xor IntKind.u64 x20 x27) → (0 : Int) ≤ (24 : Int) ∧ ∀ x29, x29 = IntKind.wrap .u64 (x28 * (16777216 : Int)) → (0 : Int) ≤ (40 : Int) ∧ ∀ (x30 : Int), x30 = Int.fdiv x28
(1099511627776 : Int) → ∀ x31, x31 = IntKind.wrap .u64 (bitsOf BinOp.or IntKind.u64 x29 x30) → ∀ x32, x32 = IntKind.wrap .u64 (x22 + x31) → ∀ x33, x33 = IntKind.wrap .u64 (bitsOf
BinOp.xor IntKind.u64 x26 x32) → (0 : Int) ≤ (16 : Int) ∧ ∀ x34, x34 = IntKind.wrap .u64 (x33 * (65536 : Int)) → (0 : Int) ≤ (48 : Int) ∧ ∀ (x35 : Int), x35 = Int.fdiv x33
(281474976710656 : Int) → ∀ x36, x36 = IntKind.wrap .u64 (bitsOf BinOp.or IntKind.u64 x34 x35) → ∀ x37, x37 = IntKind.wrap .u64 (x27 + x36) → ∀ x38, x38 = IntKind.wrap .u64 (bitsOf
BinOp.xor IntKind.u64 x31 x37) → (0 : Int) ≤ (63 : Int) ∧ ∀ x39, x39 = IntKind.wrap .u64 (x38 * (9223372036854775808 : Int)) → (0 : Int) ≤ (1 : Int) ∧ ∀ (x40 : Int), x40 = Int.fdiv
x38 (2 : Int) → ∀ x41, x41 = IntKind.wrap .u64 (bitsOf BinOp.or IntKind.u64 x39 x40) → ∀ x42, x42 = IntKind.wrap .u64 (x32 + x41) → ∀ x43, x43 = IntKind.wrap .u64 (bitsOf BinOp.xor
IntKind.u64 x42 (3 : Int)) → ∀ x44, x44 = IntKind.wrap .u64 (bitsOf BinOp.xor IntKind.u64 x36 x43) → (0 : Int) ≤ (32 : Int) ∧ ∀ x45, x45 = IntKind.wrap .u64 (x44 * (4294967296 :
Int)) → (0 : Int) ≤ (32 : Int) ∧ ∀ (x46 : Int), x46 = Int.fdiv x44 (4294967296 : Int) → ∀ x47, x47 = IntKind.wrap .u64 (bitsOf BinOp.or IntKind.u64 x45 x46) → ∀ x48, x48 =
IntKind.wrap .u64 (x37 + x47) → ∀ x49, x49 = IntKind.wrap .u64 (bitsOf BinOp.xor IntKind.u64 x41 x48) → (0 : Int) ≤ (24 : Int) ∧ ∀ x50, x50 = IntKind.wrap .u64 (x49 * (16777216 :
Int)) → (0 : Int) ≤ (40 : Int) ∧ ∀ (x51 : Int), x51 = Int.fdiv x49 (1099511627776 : Int) → ∀ x52, x52 = IntKind.wrap .u64 (bitsOf BinOp.or IntKind.u64 x50 x51) → ∀ x53, x53 =
IntKind.wrap .u64 (x43 + x52) → ∀ x54, x54 = IntKind.wrap .u64 (bitsOf BinOp.xor IntKind.u64 x47 x53) → (0 : Int) ≤ (16 : Int) ∧ ∀ x55, x55 = IntKind.wrap .u64 (x54 * (65536 :
Int)) → (0 : Int) ≤ (48 : Int) ∧ ∀ (x56 : Int), x56 = Int.fdiv x54 (281474976710656 : Int) → ∀ x57, x57 = IntKind.wrap .u64 (bitsOf BinOp.or IntKind.u64 x55 x56) → ∀ x58, x58 =
IntKind.wrap .u64 (x48 + x57) → ∀ x59, x59 = IntKind.wrap .u64 (bitsOf BinOp.xor IntKind.u64 x52 x58) → (0 : Int) ≤ (63 : Int) ∧ ∀ x60, x60 = IntKind.wrap .u64 (x59 *
(9223372036854775808 : Int)) → (0 : Int) ≤ (1 : Int) ∧ ∀ (x61 : Int), x61 = Int.fdiv x59 (2 : Int) → ∀ x62, x62 = IntKind.wrap .u64 (bitsOf BinOp.or IntKind.u64 x60 x61) → ∀ x63,
x63 = IntKind.wrap .u64 (x53 + x62) → ∀ x64, x64 = IntKind.wrap .u64 (bitsOf BinOp.xor IntKind.u64 x63 (4 : Int)) → ∀ x65, x65 = IntKind.wrap .u64 (bitsOf BinOp.xor IntKind.u64 x57
x64) → (0 : Int) ≤ (32 : Int) ∧ ∀ x66, x66 = IntKind.wrap .u64 (x65 * (4294967296 : Int)) → (0 : Int) ≤ (32 : Int) ∧ ∀ (x67 : Int), x67 = Int.fdiv x65 (4294967296 : Int) → ∀ x68,
x68 = IntKind.wrap .u64 (bitsOf BinOp.or IntKind.u64 x66 x67) → ∀ x69, x69 = IntKind.wrap .u64 (x58 + x68) → ∀ x70, x70 = IntKind.wrap .u64 (bitsOf BinOp.xor IntKind.u64 x62 x69) →
(0 : Int) ≤ (24 : Int) ∧ ∀ x71, x71 = IntKind.wrap .u64 (x70 * (16777216 : Int)) → (0 : Int) ≤ (40 : Int) ∧ ∀ (x72 : Int), x72 = Int.fdiv x70 (1099511627776 : Int) → ∀ x73, x73 =
IntKind.wrap .u64 (bitsOf BinOp.or IntKind.u64 x71 x72) → ∀ x74, x74 = IntKind.wrap .u64 (x64 + x73) → ∀ x75, x75 = IntKind.wrap .u64 (bitsOf BinOp.xor IntKind.u64 x68 x74) → (0 :
Int) ≤ (16 : Int) ∧ ∀ x76, x76 = IntKind.wrap .u64 (x75 * (65536 : Int)) → (0 : Int) ≤ (48 : Int) ∧ ∀ (x77 : Int), x77 = Int.fdiv x75 (281474976710656 : Int) → ∀ x78, x78 =
IntKind.wrap .u64 (bitsOf BinOp.or IntKind.u64 x76 x77) → ∀ x79, x79 = IntKind.wrap .u64 (x69 + x78) → ∀ x80, x80 = IntKind.wrap .u64 (bitsOf BinOp.xor IntKind.u64 x73 x79) → (0 :
Int) ≤ (63 : Int) ∧ ∀ x81, x81 = IntKind.wrap .u64 (x80 * (9223372036854775808 : Int)) → (0 : Int) ≤ (1 : Int) ∧ ∀ (x82 : Int), x82 = Int.fdiv x80 (2 : Int) → ∀ x83, x83 =
IntKind.wrap .u64 (bitsOf BinOp.or IntKind.u64 x81 x82) → ∀ x84, x84 = IntKind.wrap .u64 (x74 + x83) → ∀ x85, x85 = IntKind.wrap .u64 (bitsOf BinOp.xor IntKind.u64 x84 (5 : Int)) →
∀ x86, x86 = IntKind.wrap .u64 (bitsOf BinOp.xor IntKind.u64 x78 x85) → (0 : Int) ≤ (32 : Int) ∧ ∀ x87, x87 = IntKind.wrap .u64 (x86 * (4294967296 : Int)) → (0 : Int) ≤ (32 : Int)
∧ ∀ (x88 : Int), x88 = Int.fdiv x86 (4294967296 : Int) → ∀ x89, x89 = IntKind.wrap .u64 (bitsOf BinOp.or IntKind.u64 x87 x88) → ∀ x90, x90 = IntKind.wrap .u64 (x79 + x89) → ∀ x91,
x91 = IntKind.wrap .u64 (bitsOf BinOp.xor IntKind.u64 x83 x90) → (0 : Int) ≤ (24 : Int) ∧ ∀ x92, x92 = IntKind.wrap .u64 (x91 * (16777216 : Int)) → (0 : Int) ≤ (40 : Int) ∧ ∀ (x93
: Int), x93 = Int.fdiv x91 (1099511627776 : Int) → ∀ x94, x94 = IntKind.wrap .u64 (bitsOf BinOp.or IntKind.u64 x92 x93) → ∀ x95, x95 = IntKind.wrap .u64 (x85 + x94) → ∀ x96, x96 =
IntKind.wrap .u64 (bitsOf BinOp.xor IntKind.u64 x89 x95) → (0 : Int) ≤ (16 : Int) ∧ ∀ x97, x97 = IntKind.wrap .u64 (x96 * (65536 : Int)) → (0 : Int) ≤ (48 : Int) ∧ ∀ (x98 : Int),
x98 = Int.fdiv x96 (281474976710656 : Int) → ∀ x99, x99 = IntKind.wrap .u64 (bitsOf BinOp.or IntKind.u64 x97 x98) → ∀ x100, x100 = IntKind.wrap .u64 (x90 + x99) → ∀ x101, x101 =
IntKind.wrap .u64 (bitsOf BinOp.xor IntKind.u64 x94 x100) → (0 : Int) ≤ (63 : Int) ∧ ∀ x102, x102 = IntKind.wrap .u64 (x101 * (9223372036854775808 : Int)) → (0 : Int) ≤ (1 : Int) ∧
∀ (x103 : Int), x103 = Int.fdiv x101 (2 : Int) → ∀ x104, x104 = IntKind.wrap .u64 (bitsOf BinOp.or IntKind.u64 x102 x103) → ∀ x105, x105 = IntKind.wrap .u64 (x95 + x104) → ∀ x106,
x106 = IntKind.wrap .u64 (bitsOf BinOp.xor IntKind.u64 x105 (6 : Int)) → ∀ x107, x107 = IntKind.wrap .u64 (bitsOf BinOp.xor IntKind.u64 x99 x106) → (0 : Int) ≤ (32 : Int) ∧ ∀ x108,
x108 = IntKind.wrap .u64 (x107 * (4294967296 : Int)) → (0 : Int) ≤ (32 : Int) ∧ ∀ (x109 : Int), x109 = Int.fdiv x107 (4294967296 : Int) → ∀ x110, x110 = IntKind.wrap .u64 (bitsOf
BinOp.or IntKind.u64 x108 x109) → ∀ x111, x111 = IntKind.wrap .u64 (x100 + x110) → ∀ x112, x112 = IntKind.wrap .u64 (bitsOf BinOp.xor IntKind.u64 x104 x111) → (0 : Int) ≤ (24 :
Int) ∧ ∀ x113, x113 = IntKind.wrap .u64 (x112 * (16777216 : Int)) → (0 : Int) ≤ (40 : Int) ∧ ∀ (x114 : Int), x114 = Int.fdiv x112 (1099511627776 : Int) → ∀ x115, x115 =
IntKind.wrap .u64 (bitsOf BinOp.or IntKind.u64 x113 x114) → ∀ x116, x116 = IntKind.wrap .u64 (x106 + x115) → ∀ x117, x117 = IntKind.wrap .u64 (bitsOf BinOp.xor IntKind.u64 x110
x116) → (0 : Int) ≤ (16 : Int) ∧ ∀ x118, x118 = IntKind.wrap .u64 (x117 * (65536 : Int)) → (0 : Int) ≤ (48 : Int) ∧ ∀ (x119 : Int), x119 = Int.fdiv x117 (281474976710656 : Int) → ∀
x120, x120 = IntKind.wrap .u64 (bitsOf BinOp.or IntKind.u64 x118 x119) → ∀ x121, x121 = IntKind.wrap .u64 (x111 + x120) → ∀ x122, x122 = IntKind.wrap .u64 (bitsOf BinOp.xor
IntKind.u64 x115 x121) → (0 : Int) ≤ (63 : Int) ∧ ∀ x123, x123 = IntKind.wrap .u64 (x122 * (9223372036854775808 : Int)) → (0 : Int) ≤ (1 : Int) ∧ ∀ (x124 : Int), x124 = Int.fdiv
x122 (2 : Int) → ∀ x125, x125 = IntKind.wrap .u64 (bitsOf BinOp.or IntKind.u64 x123 x124) → ∃ (x126 : W4), x126 = stirC a ∧ True ∧ (True ∧ x126.1 = x116 ∧ x126.2 = x125 ∧ x126.3 =
x121 ∧ x126.4 = x120 ∧ True) ∧ True) := by kernel_rfl
set_option maxHeartbeats 3200000 in
theorem vc_stirB (a : W4) : G_stirB a = (∀ x0, x0 = IntKind.wrap .u64 (a.1 + a.2) → ∀ x1, x1 = IntKind.wrap .u64 (bitsOf BinOp.xor IntKind.u64 x0 (1 : Int)) → ∀ x2, x2 = IntKind.wrap .u64 (bitsOf BinOp.xor IntKind.u64
a.4 x1) → (0 : Int) ≤ (32 : Int) ∧ ∀ x3, x3 = IntKind.wrap .u64 (x2 * (4294967296 : Int)) → (0 : Int) ≤ (32 : Int) ∧ ∀ (x4 : Int), x4 = Int.fdiv x2 (4294967296 : Int) → ∀ x5, x5 =
IntKind.wrap .u64 (bitsOf BinOp.or IntKind.u64 x3 x4) → ∀ x6, x6 = IntKind.wrap .u64 (a.3 + x5) → ∀ x7, x7 = IntKind.wrap .u64 (bitsOf BinOp.xor IntKind.u64 a.2 x6) → (0 : Int) ≤
(24 : Int) ∧ ∀ x8, x8 = IntKind.wrap .u64 (x7 * (16777216 : Int)) → (0 : Int) ≤ (40 : Int) ∧ ∀ (x9 : Int), x9 = Int.fdiv x7 (1099511627776 : Int) → ∀ x10, x10 = IntKind.wrap .u64
(bitsOf BinOp.or IntKind.u64 x8 x9) → ∀ x11, x11 = IntKind.wrap .u64 (x1 + x10) → ∀ x12, x12 = IntKind.wrap .u64 (bitsOf BinOp.xor IntKind.u64 x5 x11) → (0 : Int) ≤ (16 : Int) ∧ ∀
x13, x13 = IntKind.wrap .u64 (x12 * (65536 : Int)) → (0 : Int) ≤ (48 : Int) ∧ ∀ (x14 : Int), x14 = Int.fdiv x12 (281474976710656 : Int) → ∀ x15, x15 = IntKind.wrap .u64 (bitsOf
BinOp.or IntKind.u64 x13 x14) → ∀ x16, x16 = IntKind.wrap .u64 (x6 + x15) → ∀ x17, x17 = IntKind.wrap .u64 (bitsOf BinOp.xor IntKind.u64 x10 x16) → (0 : Int) ≤ (63 : Int) ∧ ∀ x18,
x18 = IntKind.wrap .u64 (x17 * (9223372036854775808 : Int)) → (0 : Int) ≤ (1 : Int) ∧ ∀ (x19 : Int), x19 = Int.fdiv x17 (2 : Int) → ∀ x20, x20 = IntKind.wrap .u64 (bitsOf BinOp.or
IntKind.u64 x18 x19) → ∀ x21, x21 = IntKind.wrap .u64 (x11 + x20) → ∀ x22, x22 = IntKind.wrap .u64 (bitsOf BinOp.xor IntKind.u64 x21 (2 : Int)) → ∀ x23, x23 = IntKind.wrap .u64
(bitsOf BinOp.xor IntKind.u64 x15 x22) → (0 : Int) ≤ (32 : Int) ∧ ∀ x24, x24 = IntKind.wrap .u64 (x23 * (4294967296 : Int)) → (0 : Int) ≤ (32 : Int) ∧ ∀ (x25 : Int), x25 = Int.fdiv
x23 (4294967296 : Int) → ∀ x26, x26 = IntKind.wrap .u64 (bitsOf BinOp.or IntKind.u64 x24 x25) → ∀ x27, x27 = IntKind.wrap .u64 (x16 + x26) → ∀ x28, x28 = IntKind.wrap .u64 (bitsOf
BinOp.xor IntKind.u64 x20 x27) → (0 : Int) ≤ (24 : Int) ∧ ∀ x29, x29 = IntKind.wrap .u64 (x28 * (16777216 : Int)) → (0 : Int) ≤ (40 : Int) ∧ ∀ (x30 : Int), x30 = Int.fdiv x28
(1099511627776 : Int) → ∀ x31, x31 = IntKind.wrap .u64 (bitsOf BinOp.or IntKind.u64 x29 x30) → ∀ x32, x32 = IntKind.wrap .u64 (x22 + x31) → ∀ x33, x33 = IntKind.wrap .u64 (bitsOf
BinOp.xor IntKind.u64 x26 x32) → (0 : Int) ≤ (16 : Int) ∧ ∀ x34, x34 = IntKind.wrap .u64 (x33 * (65536 : Int)) → (0 : Int) ≤ (48 : Int) ∧ ∀ (x35 : Int), x35 = Int.fdiv x33
(281474976710656 : Int) → ∀ x36, x36 = IntKind.wrap .u64 (bitsOf BinOp.or IntKind.u64 x34 x35) → ∀ x37, x37 = IntKind.wrap .u64 (x27 + x36) → ∀ x38, x38 = IntKind.wrap .u64 (bitsOf
BinOp.xor IntKind.u64 x31 x37) → (0 : Int) ≤ (63 : Int) ∧ ∀ x39, x39 = IntKind.wrap .u64 (x38 * (9223372036854775808 : Int)) → (0 : Int) ≤ (1 : Int) ∧ ∀ (x40 : Int), x40 = Int.fdiv
x38 (2 : Int) → ∀ x41, x41 = IntKind.wrap .u64 (bitsOf BinOp.or IntKind.u64 x39 x40) → ∀ x42, x42 = IntKind.wrap .u64 (x32 + x41) → ∀ x43, x43 = IntKind.wrap .u64 (bitsOf BinOp.xor
IntKind.u64 x42 (3 : Int)) → ∀ x44, x44 = IntKind.wrap .u64 (bitsOf BinOp.xor IntKind.u64 x36 x43) → (0 : Int) ≤ (32 : Int) ∧ ∀ x45, x45 = IntKind.wrap .u64 (x44 * (4294967296 :
Int)) → (0 : Int) ≤ (32 : Int) ∧ ∀ (x46 : Int), x46 = Int.fdiv x44 (4294967296 : Int) → ∀ x47, x47 = IntKind.wrap .u64 (bitsOf BinOp.or IntKind.u64 x45 x46) → ∀ x48, x48 =
IntKind.wrap .u64 (x37 + x47) → ∀ x49, x49 = IntKind.wrap .u64 (bitsOf BinOp.xor IntKind.u64 x41 x48) → (0 : Int) ≤ (24 : Int) ∧ ∀ x50, x50 = IntKind.wrap .u64 (x49 * (16777216 :
Int)) → (0 : Int) ≤ (40 : Int) ∧ ∀ (x51 : Int), x51 = Int.fdiv x49 (1099511627776 : Int) → ∀ x52, x52 = IntKind.wrap .u64 (bitsOf BinOp.or IntKind.u64 x50 x51) → ∀ x53, x53 =
IntKind.wrap .u64 (x43 + x52) → ∀ x54, x54 = IntKind.wrap .u64 (bitsOf BinOp.xor IntKind.u64 x47 x53) → (0 : Int) ≤ (16 : Int) ∧ ∀ x55, x55 = IntKind.wrap .u64 (x54 * (65536 :
Int)) → (0 : Int) ≤ (48 : Int) ∧ ∀ (x56 : Int), x56 = Int.fdiv x54 (281474976710656 : Int) → ∀ x57, x57 = IntKind.wrap .u64 (bitsOf BinOp.or IntKind.u64 x55 x56) → ∀ x58, x58 =
IntKind.wrap .u64 (x48 + x57) → ∀ x59, x59 = IntKind.wrap .u64 (bitsOf BinOp.xor IntKind.u64 x52 x58) → (0 : Int) ≤ (63 : Int) ∧ ∀ x60, x60 = IntKind.wrap .u64 (x59 *
(9223372036854775808 : Int)) → (0 : Int) ≤ (1 : Int) ∧ ∀ (x61 : Int), x61 = Int.fdiv x59 (2 : Int) → ∀ x62, x62 = IntKind.wrap .u64 (bitsOf BinOp.or IntKind.u64 x60 x61) → ∀ x63,
x63 = IntKind.wrap .u64 (x53 + x62) → ∀ x64, x64 = IntKind.wrap .u64 (bitsOf BinOp.xor IntKind.u64 x63 (4 : Int)) → ∀ x65, x65 = IntKind.wrap .u64 (bitsOf BinOp.xor IntKind.u64 x57
x64) → (0 : Int) ≤ (32 : Int) ∧ ∀ x66, x66 = IntKind.wrap .u64 (x65 * (4294967296 : Int)) → (0 : Int) ≤ (32 : Int) ∧ ∀ (x67 : Int), x67 = Int.fdiv x65 (4294967296 : Int) → ∀ x68,
x68 = IntKind.wrap .u64 (bitsOf BinOp.or IntKind.u64 x66 x67) → ∀ x69, x69 = IntKind.wrap .u64 (x58 + x68) → ∀ x70, x70 = IntKind.wrap .u64 (bitsOf BinOp.xor IntKind.u64 x62 x69) →
(0 : Int) ≤ (24 : Int) ∧ ∀ x71, x71 = IntKind.wrap .u64 (x70 * (16777216 : Int)) → (0 : Int) ≤ (40 : Int) ∧ ∀ (x72 : Int), x72 = Int.fdiv x70 (1099511627776 : Int) → ∀ x73, x73 =
IntKind.wrap .u64 (bitsOf BinOp.or IntKind.u64 x71 x72) → ∀ x74, x74 = IntKind.wrap .u64 (x64 + x73) → ∀ x75, x75 = IntKind.wrap .u64 (bitsOf BinOp.xor IntKind.u64 x68 x74) → (0 :
Int) ≤ (16 : Int) ∧ ∀ x76, x76 = IntKind.wrap .u64 (x75 * (65536 : Int)) → (0 : Int) ≤ (48 : Int) ∧ ∀ (x77 : Int), x77 = Int.fdiv x75 (281474976710656 : Int) → ∀ x78, x78 =
IntKind.wrap .u64 (bitsOf BinOp.or IntKind.u64 x76 x77) → ∀ x79, x79 = IntKind.wrap .u64 (x69 + x78) → ∀ x80, x80 = IntKind.wrap .u64 (bitsOf BinOp.xor IntKind.u64 x73 x79) → (0 :
Int) ≤ (63 : Int) ∧ ∀ x81, x81 = IntKind.wrap .u64 (x80 * (9223372036854775808 : Int)) → (0 : Int) ≤ (1 : Int) ∧ ∀ (x82 : Int), x82 = Int.fdiv x80 (2 : Int) → ∀ x83, x83 =
IntKind.wrap .u64 (bitsOf BinOp.or IntKind.u64 x81 x82) → ∀ x84, x84 = IntKind.wrap .u64 (x74 + x83) → ∀ x85, x85 = IntKind.wrap .u64 (bitsOf BinOp.xor IntKind.u64 x84 (5 : Int)) →
∀ x86, x86 = IntKind.wrap .u64 (bitsOf BinOp.xor IntKind.u64 x78 x85) → (0 : Int) ≤ (32 : Int) ∧ ∀ x87, x87 = IntKind.wrap .u64 (x86 * (4294967296 : Int)) → (0 : Int) ≤ (32 : Int)
∧ ∀ (x88 : Int), x88 = Int.fdiv x86 (4294967296 : Int) → ∀ x89, x89 = IntKind.wrap .u64 (bitsOf BinOp.or IntKind.u64 x87 x88) → ∀ x90, x90 = IntKind.wrap .u64 (x79 + x89) → ∀ x91,
x91 = IntKind.wrap .u64 (bitsOf BinOp.xor IntKind.u64 x83 x90) → (0 : Int) ≤ (24 : Int) ∧ ∀ x92, x92 = IntKind.wrap .u64 (x91 * (16777216 : Int)) → (0 : Int) ≤ (40 : Int) ∧ ∀ (x93
: Int), x93 = Int.fdiv x91 (1099511627776 : Int) → ∀ x94, x94 = IntKind.wrap .u64 (bitsOf BinOp.or IntKind.u64 x92 x93) → ∀ x95, x95 = IntKind.wrap .u64 (x85 + x94) → ∀ x96, x96 =
IntKind.wrap .u64 (bitsOf BinOp.xor IntKind.u64 x89 x95) → (0 : Int) ≤ (16 : Int) ∧ ∀ x97, x97 = IntKind.wrap .u64 (x96 * (65536 : Int)) → (0 : Int) ≤ (48 : Int) ∧ ∀ (x98 : Int),
x98 = Int.fdiv x96 (281474976710656 : Int) → ∀ x99, x99 = IntKind.wrap .u64 (bitsOf BinOp.or IntKind.u64 x97 x98) → ∀ x100, x100 = IntKind.wrap .u64 (x90 + x99) → ∀ x101, x101 =
IntKind.wrap .u64 (bitsOf BinOp.xor IntKind.u64 x94 x100) → (0 : Int) ≤ (63 : Int) ∧ ∀ x102, x102 = IntKind.wrap .u64 (x101 * (9223372036854775808 : Int)) → (0 : Int) ≤ (1 : Int) ∧
∀ (x103 : Int), x103 = Int.fdiv x101 (2 : Int) → ∀ x104, x104 = IntKind.wrap .u64 (bitsOf BinOp.or IntKind.u64 x102 x103) → ∀ x105, x105 = IntKind.wrap .u64 (x95 + x104) → ∀ x106,
x106 = IntKind.wrap .u64 (bitsOf BinOp.xor IntKind.u64 x105 (6 : Int)) → ∀ x107, x107 = IntKind.wrap .u64 (bitsOf BinOp.xor IntKind.u64 x99 x106) → (0 : Int) ≤ (32 : Int) ∧ ∀ x108,
x108 = IntKind.wrap .u64 (x107 * (4294967296 : Int)) → (0 : Int) ≤ (32 : Int) ∧ ∀ (x109 : Int), x109 = Int.fdiv x107 (4294967296 : Int) → ∀ x110, x110 = IntKind.wrap .u64 (bitsOf
BinOp.or IntKind.u64 x108 x109) → ∀ x111, x111 = IntKind.wrap .u64 (x100 + x110) → ∀ x112, x112 = IntKind.wrap .u64 (bitsOf BinOp.xor IntKind.u64 x104 x111) → (0 : Int) ≤ (24 :
Int) ∧ ∀ x113, x113 = IntKind.wrap .u64 (x112 * (16777216 : Int)) → (0 : Int) ≤ (40 : Int) ∧ ∀ (x114 : Int), x114 = Int.fdiv x112 (1099511627776 : Int) → ∀ x115, x115 =
IntKind.wrap .u64 (bitsOf BinOp.or IntKind.u64 x113 x114) → ∀ x116, x116 = IntKind.wrap .u64 (x106 + x115) → ∀ x117, x117 = IntKind.wrap .u64 (bitsOf BinOp.xor IntKind.u64 x110
x116) → (0 : Int) ≤ (16 : Int) ∧ ∀ x118, x118 = IntKind.wrap .u64 (x117 * (65536 : Int)) → (0 : Int) ≤ (48 : Int) ∧ ∀ (x119 : Int), x119 = Int.fdiv x117 (281474976710656 : Int) → ∀
x120, x120 = IntKind.wrap .u64 (bitsOf BinOp.or IntKind.u64 x118 x119) → ∀ x121, x121 = IntKind.wrap .u64 (x111 + x120) → ∀ x122, x122 = IntKind.wrap .u64 (bitsOf BinOp.xor
IntKind.u64 x115 x121) → (0 : Int) ≤ (63 : Int) ∧ ∀ x123, x123 = IntKind.wrap .u64 (x122 * (9223372036854775808 : Int)) → (0 : Int) ≤ (1 : Int) ∧ ∀ (x124 : Int), x124 = Int.fdiv
x122 (2 : Int) → ∀ x125, x125 = IntKind.wrap .u64 (bitsOf BinOp.or IntKind.u64 x123 x124) → ∃ (x126 : W4), x126 = stirC a ∧ (x126.1 = x116 ∧ x126.2 = x125 ∧ x126.3 = x121 ∧ x126.4
= x120 ∧ True) ∧ True) := by kernel_rfl
theorem half1_ok {r w0 w1 w2 w3 a b c d e f g h i j k : Int} (ea : a = IntKind.wrap .u64 (w0 + w1)) (eb : b = IntKind.wrap .u64 (bitsOf .xor .u64 a r)) (ec : c = IntKind.wrap .u64 (bitsOf .xor .u64 w3 b)) (ed : d = IntKind.wrap .u64 (c * 4294967296)) (ee : e = Int.fdiv c 4294967296) (ef : f = IntKind.wrap .u64 (bitsOf .or .u64 d e))
    (eg : g = IntKind.wrap .u64 (w2 + f)) (eh : h = IntKind.wrap .u64 (bitsOf .xor .u64 w1 g)) (ei : i = IntKind.wrap .u64 (h * 16777216)) (ej : j = Int.fdiv h 1099511627776) (ek : k = IntKind.wrap .u64 (bitsOf .or .u64 i j)) : half1 r ⟨w0, w1, w2, w3⟩ = ⟨b, k, g, f⟩ := by
  subst ek ei ej eh eg ef ed ee ec eb ea; rfl
theorem half2_ok {w0 w1 w2 w3 a c d e f g h i j k : Int} (ea : a = IntKind.wrap .u64 (w0 + w1)) (ec : c = IntKind.wrap .u64 (bitsOf .xor .u64 w3 a)) (ed : d = IntKind.wrap .u64 (c * 65536)) (ee : e = Int.fdiv c 281474976710656) (ef : f = IntKind.wrap .u64 (bitsOf .or .u64 d e))
    (eg : g = IntKind.wrap .u64 (w2 + f)) (eh : h = IntKind.wrap .u64 (bitsOf .xor .u64 w1 g)) (ei : i = IntKind.wrap .u64 (h * 9223372036854775808)) (ej : j = Int.fdiv h 2) (ek : k = IntKind.wrap .u64 (bitsOf .or .u64 i j)) : half2 ⟨w0, w1, w2, w3⟩ = ⟨a, k, g, f⟩ := by
  subst ek ei ej eh eg ef ed ee ec ea; rfl
theorem g_stirB (a : W4) : G_stirB a := by
  rw [vc_stirB]
  intro x0 e0 x1 e1 x2 e2
  refine ⟨by decide, fun x3 e3 => ⟨by decide, fun x4 e4 x5 e5 x6 e6 x7 e7 => ⟨by decide, fun x8 e8 => ⟨by decide, fun x9 e9 x10 e10 => ?_⟩⟩⟩⟩
  have h0 := half1_ok e0 e1 e2 e3 e4 e5 e6 e7 e8 e9 e10
  intro x11 e11 x12 e12
  refine ⟨by decide, fun x13 e13 => ⟨by decide, fun x14 e14 x15 e15 x16 e16 x17 e17 => ⟨by decide, fun x18 e18 => ⟨by decide, fun x19 e19 x20 e20 => ?_⟩⟩⟩⟩
  have h1 := half2_ok e11 e12 e13 e14 e15 e16 e17 e18 e19 e20
  intro x21 e21 x22 e22 x23 e23
  refine ⟨by decide, fun x24 e24 => ⟨by decide, fun x25 e25 x26 e26 x27 e27 x28 e28 => ⟨by decide, fun x29 e29 => ⟨by decide, fun x30 e30 x31 e31 => ?_⟩⟩⟩⟩
  have h2 := half1_ok e21 e22 e23 e24 e25 e26 e27 e28 e29 e30 e31
  intro x32 e32 x33 e33
  refine ⟨by decide, fun x34 e34 => ⟨by decide, fun x35 e35 x36 e36 x37 e37 x38 e38 => ⟨by decide, fun x39 e39 => ⟨by decide, fun x40 e40 x41 e41 => ?_⟩⟩⟩⟩
  have h3 := half2_ok e32 e33 e34 e35 e36 e37 e38 e39 e40 e41
  intro x42 e42 x43 e43 x44 e44
  refine ⟨by decide, fun x45 e45 => ⟨by decide, fun x46 e46 x47 e47 x48 e48 x49 e49 => ⟨by decide, fun x50 e50 => ⟨by decide, fun x51 e51 x52 e52 => ?_⟩⟩⟩⟩
  have h4 := half1_ok e42 e43 e44 e45 e46 e47 e48 e49 e50 e51 e52
  intro x53 e53 x54 e54
  refine ⟨by decide, fun x55 e55 => ⟨by decide, fun x56 e56 x57 e57 x58 e58 x59 e59 => ⟨by decide, fun x60 e60 => ⟨by decide, fun x61 e61 x62 e62 => ?_⟩⟩⟩⟩
  have h5 := half2_ok e53 e54 e55 e56 e57 e58 e59 e60 e61 e62
  intro x63 e63 x64 e64 x65 e65
  refine ⟨by decide, fun x66 e66 => ⟨by decide, fun x67 e67 x68 e68 x69 e69 x70 e70 => ⟨by decide, fun x71 e71 => ⟨by decide, fun x72 e72 x73 e73 => ?_⟩⟩⟩⟩
  have h6 := half1_ok e63 e64 e65 e66 e67 e68 e69 e70 e71 e72 e73
  intro x74 e74 x75 e75
  refine ⟨by decide, fun x76 e76 => ⟨by decide, fun x77 e77 x78 e78 x79 e79 x80 e80 => ⟨by decide, fun x81 e81 => ⟨by decide, fun x82 e82 x83 e83 => ?_⟩⟩⟩⟩
  have h7 := half2_ok e74 e75 e76 e77 e78 e79 e80 e81 e82 e83
  intro x84 e84 x85 e85 x86 e86
  refine ⟨by decide, fun x87 e87 => ⟨by decide, fun x88 e88 x89 e89 x90 e90 x91 e91 => ⟨by decide, fun x92 e92 => ⟨by decide, fun x93 e93 x94 e94 => ?_⟩⟩⟩⟩
  have h8 := half1_ok e84 e85 e86 e87 e88 e89 e90 e91 e92 e93 e94
  intro x95 e95 x96 e96
  refine ⟨by decide, fun x97 e97 => ⟨by decide, fun x98 e98 x99 e99 x100 e100 x101 e101 => ⟨by decide, fun x102 e102 => ⟨by decide, fun x103 e103 x104 e104 => ?_⟩⟩⟩⟩
  have h9 := half2_ok e95 e96 e97 e98 e99 e100 e101 e102 e103 e104
  intro x105 e105 x106 e106 x107 e107
  refine ⟨by decide, fun x108 e108 => ⟨by decide, fun x109 e109 x110 e110 x111 e111 x112 e112 => ⟨by decide, fun x113 e113 => ⟨by decide, fun x114 e114 x115 e115 => ?_⟩⟩⟩⟩
  have h10 := half1_ok e105 e106 e107 e108 e109 e110 e111 e112 e113 e114 e115
  intro x116 e116 x117 e117
  refine ⟨by decide, fun x118 e118 => ⟨by decide, fun x119 e119 x120 e120 x121 e121 x122 e122 => ⟨by decide, fun x123 e123 => ⟨by decide, fun x124 e124 x125 e125 => ?_⟩⟩⟩⟩
  have h11 := half2_ok e116 e117 e118 e119 e120 e121 e122 e123 e124 e125
  have hs : stirC a = ⟨x116, x125, x121, x120⟩ := by
    unfold stirC rndC
    rw [show a = ⟨a.w0, a.w1, a.w2, a.w3⟩ from rfl]
    rw [h0, h1, h2, h3, h4, h5, h6, h7, h8, h9, h10, h11]
  exact ⟨stirC a, rfl, by rw [hs]; exact ⟨rfl, rfl, rfl, rfl, trivial⟩, trivial⟩
theorem g_stirA (a : W4) : G_stirA a := by
  rw [vc_stirA]
  refine ⟨?_, ?_⟩
  · repeat' first
      | with_reducible apply And.intro
      | exact trivial
      | exact rfl
  intro x0 e0 x1 e1 x2 e2
  refine ⟨by decide, fun x3 e3 => ⟨by decide, fun x4 e4 x5 e5 x6 e6 x7 e7 => ⟨by decide, fun x8 e8 => ⟨by decide, fun x9 e9 x10 e10 => ?_⟩⟩⟩⟩
  have h0 := half1_ok e0 e1 e2 e3 e4 e5 e6 e7 e8 e9 e10
  intro x11 e11 x12 e12
  refine ⟨by decide, fun x13 e13 => ⟨by decide, fun x14 e14 x15 e15 x16 e16 x17 e17 => ⟨by decide, fun x18 e18 => ⟨by decide, fun x19 e19 x20 e20 => ?_⟩⟩⟩⟩
  have h1 := half2_ok e11 e12 e13 e14 e15 e16 e17 e18 e19 e20
  intro x21 e21 x22 e22 x23 e23
  refine ⟨by decide, fun x24 e24 => ⟨by decide, fun x25 e25 x26 e26 x27 e27 x28 e28 => ⟨by decide, fun x29 e29 => ⟨by decide, fun x30 e30 x31 e31 => ?_⟩⟩⟩⟩
  have h2 := half1_ok e21 e22 e23 e24 e25 e26 e27 e28 e29 e30 e31
  intro x32 e32 x33 e33
  refine ⟨by decide, fun x34 e34 => ⟨by decide, fun x35 e35 x36 e36 x37 e37 x38 e38 => ⟨by decide, fun x39 e39 => ⟨by decide, fun x40 e40 x41 e41 => ?_⟩⟩⟩⟩
  have h3 := half2_ok e32 e33 e34 e35 e36 e37 e38 e39 e40 e41
  intro x42 e42 x43 e43 x44 e44
  refine ⟨by decide, fun x45 e45 => ⟨by decide, fun x46 e46 x47 e47 x48 e48 x49 e49 => ⟨by decide, fun x50 e50 => ⟨by decide, fun x51 e51 x52 e52 => ?_⟩⟩⟩⟩
  have h4 := half1_ok e42 e43 e44 e45 e46 e47 e48 e49 e50 e51 e52
  intro x53 e53 x54 e54
  refine ⟨by decide, fun x55 e55 => ⟨by decide, fun x56 e56 x57 e57 x58 e58 x59 e59 => ⟨by decide, fun x60 e60 => ⟨by decide, fun x61 e61 x62 e62 => ?_⟩⟩⟩⟩
  have h5 := half2_ok e53 e54 e55 e56 e57 e58 e59 e60 e61 e62
  intro x63 e63 x64 e64 x65 e65
  refine ⟨by decide, fun x66 e66 => ⟨by decide, fun x67 e67 x68 e68 x69 e69 x70 e70 => ⟨by decide, fun x71 e71 => ⟨by decide, fun x72 e72 x73 e73 => ?_⟩⟩⟩⟩
  have h6 := half1_ok e63 e64 e65 e66 e67 e68 e69 e70 e71 e72 e73
  intro x74 e74 x75 e75
  refine ⟨by decide, fun x76 e76 => ⟨by decide, fun x77 e77 x78 e78 x79 e79 x80 e80 => ⟨by decide, fun x81 e81 => ⟨by decide, fun x82 e82 x83 e83 => ?_⟩⟩⟩⟩
  have h7 := half2_ok e74 e75 e76 e77 e78 e79 e80 e81 e82 e83
  intro x84 e84 x85 e85 x86 e86
  refine ⟨by decide, fun x87 e87 => ⟨by decide, fun x88 e88 x89 e89 x90 e90 x91 e91 => ⟨by decide, fun x92 e92 => ⟨by decide, fun x93 e93 x94 e94 => ?_⟩⟩⟩⟩
  have h8 := half1_ok e84 e85 e86 e87 e88 e89 e90 e91 e92 e93 e94
  intro x95 e95 x96 e96
  refine ⟨by decide, fun x97 e97 => ⟨by decide, fun x98 e98 x99 e99 x100 e100 x101 e101 => ⟨by decide, fun x102 e102 => ⟨by decide, fun x103 e103 x104 e104 => ?_⟩⟩⟩⟩
  have h9 := half2_ok e95 e96 e97 e98 e99 e100 e101 e102 e103 e104
  intro x105 e105 x106 e106 x107 e107
  refine ⟨by decide, fun x108 e108 => ⟨by decide, fun x109 e109 x110 e110 x111 e111 x112 e112 => ⟨by decide, fun x113 e113 => ⟨by decide, fun x114 e114 x115 e115 => ?_⟩⟩⟩⟩
  have h10 := half1_ok e105 e106 e107 e108 e109 e110 e111 e112 e113 e114 e115
  intro x116 e116 x117 e117
  refine ⟨by decide, fun x118 e118 => ⟨by decide, fun x119 e119 x120 e120 x121 e121 x122 e122 => ⟨by decide, fun x123 e123 => ⟨by decide, fun x124 e124 x125 e125 => ?_⟩⟩⟩⟩
  have h11 := half2_ok e116 e117 e118 e119 e120 e121 e122 e123 e124 e125
  have hs : stirC a = ⟨x116, x125, x121, x120⟩ := by
    unfold stirC rndC
    rw [show a = ⟨a.w0, a.w1, a.w2, a.w3⟩ from rfl]
    rw [h0, h1, h2, h3, h4, h5, h6, h7, h8, h9, h10, h11]
  exact ⟨stirC a, rfl, trivial, ⟨trivial, by rw [hs]; exact ⟨rfl, rfl, rfl, rfl, trivial⟩⟩, trivial⟩
theorem s_stirA : SpecOK Tryz.prog S_stirA.spec := fun a => specD_at (an := []) envOK (cwN_ok (fun _ h => h) 2) fun _ => g_stirA a
theorem s_stirB : SpecOK Tryz.prog S_stirB.spec := fun a => specD_at (an := []) envOK (cwN_ok (fun _ h => h) 2) fun _ => g_stirB a
end Go.Proofs.YtalbjjimnhldfaaGreatDoor
end
