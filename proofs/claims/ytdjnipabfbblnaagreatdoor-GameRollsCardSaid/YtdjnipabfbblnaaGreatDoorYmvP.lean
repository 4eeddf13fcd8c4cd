/- Moves: what is told of their bytes, and of what is read, is so. -/
import Derived.Test.YtdjnipabfbblnaaGreatDoorYmo
section
set_option maxRecDepth 100000
namespace Go.Proofs.YtdjnipabfbblnaaGreatDoor
open Go.Ev
set_option linter.unusedSectionVars false
variable [Go.Ev.Frozen Tryz.prog]
theorem RI.with {a : RA} {xs : List Int} (h : RI a xs) {p e m : Int} (h0 : 0 ≤ p) (h1 : p ≤ a.s.l) (m0 : 0 ≤ m) (m1 : m < 18446744073709551616) : RI ⟨a.s, p, e, m⟩ xs := ⟨h.sl, h.by_, h0, h1, m0, m1⟩
theorem LC.none : LC ⟨true, 0, 0, []⟩ [] := ⟨.nil, rfl, Nat.le_refl _, fun _ => ⟨rfl, rfl⟩⟩
theorem LC.one (x : Int) : LC ⟨false, 1, 1, [tgI .i32 x]⟩ [x] := ⟨.one, rfl, Nat.le_refl _, fun h => by cases h⟩
theorem LC.snoc {s : SN} {ys : List Int} (h : LC s ys) (x : Int) {n k : Nat} (hn : n = s.l + 1) (hk : k = if n ≤ s.k then s.k else n) : LC ⟨false, n, k, s.c ++ [tgI .i32 x]⟩ (ys ++ [x]) :=
  ⟨h.he.snoc, by have := h.l; simp; omega, by show n ≤ k; rw [hk]; split <;> omega, fun h => by cases h⟩
theorem LC.flat {s : SN} {ys : List Int} (h : LC s ys) : FlatL s.c := h.he.flat
theorem MH.uniq {a : MA} {xs ys : List Int} (h : MH a xs) (g : MH a ys) : xs = ys := Sli.uniqI h.sl g.sl
theorem HW.lit (k : IntKind) (z : Int) : HE k [Value.int k z] [z] := ⟨rfl, fun i x h => by
  cases i with
  | zero => cases h; exact .inl rfl
  | succ i => simp at h⟩
end Go.Proofs.YtdjnipabfbblnaaGreatDoor
end

/- The program's bytes of a position: what is told of Encode (what is to be shown). -/
section
set_option maxRecDepth 100000
namespace Go.Proofs.YtdjnipabfbblnaaGreatDoor
open Go.Ev
-- keep num foldI dnum encV encG encT enc1 enc2 enc3 enc Go.Ev.Sli PH PW OwB Byts8
set_option linter.unusedSectionVars false
variable [Go.Ev.Frozen Tryz.prog]
end Go.Proofs.YtdjnipabfbblnaaGreatDoor
end

/- The program's bytes of a position: what is told of Encode is so. -/
section
set_option maxRecDepth 100000
namespace Go.Proofs.YtdjnipabfbblnaaGreatDoor
open Go.Ev
set_option linter.unusedSectionVars false
variable [Go.Ev.Frozen Tryz.prog]
end Go.Proofs.YtdjnipabfbblnaaGreatDoor
end

/- Digests: what is told of the states' stirring (what is to be shown; under way). -/
section
set_option maxRecDepth 100000
namespace Go.Proofs.YtdjnipabfbblnaaGreatDoor
open Go.Ev
-- keep num stirC rotC xorC addC half1 half2 rndC
structure W4 where
  w0 : Int
  w1 : Int
  w2 : Int
  w3 : Int
def rotC (x p q : Int) : Int := IntKind.wrap .u64 (Go.Ev.bitsOf .or .u64 (IntKind.wrap .u64 (x * p)) (Int.fdiv x q))
def xorC (x y : Int) : Int := IntKind.wrap .u64 (Go.Ev.bitsOf .xor .u64 x y)
def addC (x y : Int) : Int := IntKind.wrap .u64 (x + y)
def half1 (r : Int) (w : W4) : W4 := ⟨xorC (addC w.w0 w.w1) r, rotC (xorC w.w1 (addC w.w2 (rotC (xorC w.w3 (xorC (addC w.w0 w.w1) r)) 4294967296 4294967296))) 16777216 1099511627776, addC w.w2 (rotC (xorC w.w3 (xorC (addC w.w0 w.w1) r)) 4294967296 4294967296), rotC (xorC w.w3 (xorC (addC w.w0 w.w1) r)) 4294967296 4294967296⟩
def half2 (w : W4) : W4 := ⟨addC w.w0 w.w1, rotC (xorC w.w1 (addC w.w2 (rotC (xorC w.w3 (addC w.w0 w.w1)) 65536 281474976710656))) 9223372036854775808 2, addC w.w2 (rotC (xorC w.w3 (addC w.w0 w.w1)) 65536 281474976710656), rotC (xorC w.w3 (addC w.w0 w.w1)) 65536 281474976710656⟩
def rndC (r : Int) (w : W4) : W4 := half2 (half1 r w)
def stirC (w : W4) : W4 := rndC 6 (rndC 5 (rndC 4 (rndC 3 (rndC 2 (rndC 1 w)))))
set_option linter.unusedSectionVars false
variable [Go.Ev.Frozen Tryz.prog]
noncomputable section
abbrev W4.c (w : W4) : List Value := [tgI .u64 w.w0, tgI .u64 w.w1, tgI .u64 w.w2, tgI .u64 w.w3]
def S_stirA : SpecD where
  f := 88
  α := W4
  args _ := [.pointer (some ⟨13, 0, none⟩)]
  R a := [(13, .p (.row a.c 105 .own))]
  n := 13 + 1
  pre _ := True
  outs := [⟨W4, fun a b => b = stirC a, fun _ _ => .tuple ⟨[]⟩, fun _ b => [(13, .p (.row b.c 105 .own))], fun _ _ => 13 + 1, fun _ _ => []⟩]
  pick _ _ := 0
  find l A := ptK (lv l 0) fun b => rowK A b fun r => wI (lv r 0) fun a => wI (lv r 1) fun c => wI (lv r 2) fun d => wI (lv r 3) fun e => some (⟨a, c, d, e⟩, [(13, b)])
def G_stirA (a : W4) : Prop := fnW Tryz.prog E0 (cwN (fun c => c) 2) [] S_stirA.f (S_stirA.args a) (mem (S_stirA.R a) S_stirA.n) (endD Tryz.prog S_stirA a)
end
end Go.Proofs.YtdjnipabfbblnaaGreatDoor
end

/- Digests: what is told of the states' stirring is so. -/
section
set_option maxRecDepth 100000
namespace Go.Proofs.YtdjnipabfbblnaaGreatDoor
open Go.Ev
set_option linter.unusedSectionVars false
variable [Go.Ev.Frozen Tryz.prog]
set_option maxHeartbeats 3200000 in
abbrev QYstP_1 (a0 : Int) (a1 : Int) (a2 : Int) : Prop := a0 = IntKind.wrap .u64 (bitsOf BinOp.xor IntKind.u64 a1 a2)
abbrev QYstP_2 (a0 : Int) (a1 : Int) (a2 : Int) : Prop := a0 = IntKind.wrap .u64 (bitsOf BinOp.or IntKind.u64 a1 a2)
abbrev QYstP_3 (a0 : Int) (a1 : Int) : Prop := a0 = IntKind.wrap .u64 (a1 * (9223372036854775808 : Int))
theorem vc_stirA (a : W4) : G_stirA a = ((True ∧ True ∧ True ∧ True ∧ True ∧ True ∧ True ∧ True ∧ True ∧ True ∧ True ∧ True ∧ True ∧ True ∧ True ∧ True ∧ True ∧ True ∧ True ∧ True ∧ True) ∧ ∀ (x0 : Int), x0 =
IntKind.wrap .u64 (a.1 + a.2) → ∀ (x1 : Int), x1 = IntKind.wrap .u64 (bitsOf BinOp.xor IntKind.u64 x0 (1 : Int)) → ∀ (x2 : Int), QYstP_1 x2 a.4 x1 → (0 : Int) ≤ (32 : Int) ∧ ∀ (x3
: Int), x3 = IntKind.wrap .u64 (x2 * (4294967296 : Int)) → (0 : Int) ≤ (32 : Int) ∧ ∀ (x4 : Int), x4 = Int.fdiv x2 (4294967296 : Int) → ∀ (x5 : Int), QYstP_2 x5 x3 x4 → ∀ (x6 :
Int), x6 = IntKind.wrap .u64 (a.3 + x5) → ∀ (x7 : Int), QYstP_1 x7 a.2 x6 → (0 : Int) ≤ (24 : Int) ∧ ∀ (x8 : Int), x8 = IntKind.wrap .u64 (x7 * (16777216 : Int)) → (0 : Int) ≤ (40
: Int) ∧ ∀ (x9 : Int), x9 = Int.fdiv x7 (1099511627776 : Int) → ∀ (x10 : Int), QYstP_2 x10 x8 x9 → ∀ (x11 : Int), x11 = IntKind.wrap .u64 (x1 + x10) → ∀ (x12 : Int), QYstP_1 x12 x5
x11 → (0 : Int) ≤ (16 : Int) ∧ ∀ (x13 : Int), x13 = IntKind.wrap .u64 (x12 * (65536 : Int)) → (0 : Int) ≤ (48 : Int) ∧ ∀ (x14 : Int), x14 = Int.fdiv x12 (281474976710656 : Int) → ∀
(x15 : Int), QYstP_2 x15 x13 x14 → ∀ (x16 : Int), x16 = IntKind.wrap .u64 (x6 + x15) → ∀ (x17 : Int), QYstP_1 x17 x10 x16 → (0 : Int) ≤ (63 : Int) ∧ ∀ (x18 : Int), QYstP_3 x18 x17
→ (0 : Int) ≤ (1 : Int) ∧ ∀ (x19 : Int), x19 = Int.fdiv x17 (2 : Int) → ∀ (x20 : Int), QYstP_2 x20 x18 x19 → ∀ (x21 : Int), x21 = IntKind.wrap .u64 (x11 + x20) → ∀ (x22 : Int), x22
= IntKind.wrap .u64 (bitsOf BinOp.xor IntKind.u64 x21 (2 : Int)) → ∀ (x23 : Int), QYstP_1 x23 x15 x22 → (0 : Int) ≤ (32 : Int) ∧ ∀ (x24 : Int), x24 = IntKind.wrap .u64 (x23 *
(4294967296 : Int)) → (0 : Int) ≤ (32 : Int) ∧ ∀ (x25 : Int), x25 = Int.fdiv x23 (4294967296 : Int) → ∀ (x26 : Int), QYstP_2 x26 x24 x25 → ∀ (x27 : Int), x27 = IntKind.wrap .u64
(x16 + x26) → ∀ (x28 : Int), QYstP_1 x28 x20 x27 → (0 : Int) ≤ (24 : Int) ∧ ∀ (x29 : Int), x29 = IntKind.wrap .u64 (x28 * (16777216 : Int)) → (0 : Int) ≤ (40 : Int) ∧ ∀ (x30 :
Int), x30 = Int.fdiv x28 (1099511627776 : Int) → ∀ (x31 : Int), QYstP_2 x31 x29 x30 → ∀ (x32 : Int), x32 = IntKind.wrap .u64 (x22 + x31) → ∀ (x33 : Int), QYstP_1 x33 x26 x32 → (0 :
Int) ≤ (16 : Int) ∧ ∀ (x34 : Int), x34 = IntKind.wrap .u64 (x33 * (65536 : Int)) → (0 : Int) ≤ (48 : Int) ∧ ∀ (x35 : Int), x35 = Int.fdiv x33 (281474976710656 : Int) → ∀ (x36 :
Int), QYstP_2 x36 x34 x35 → ∀ (x37 : Int), x37 = IntKind.wrap .u64 (x27 + x36) → ∀ (x38 : Int), QYstP_1 x38 x31 x37 → (0 : Int) ≤ (63 : Int) ∧ ∀ (x39 : Int), QYstP_3 x39 x38 → (0 :
Int) ≤ (1 : Int) ∧ ∀ (x40 : Int), x40 = Int.fdiv x38 (2 : Int) → ∀ (x41 : Int), QYstP_2 x41 x39 x40 → ∀ (x42 : Int), x42 = IntKind.wrap .u64 (x32 + x41) → ∀ (x43 : Int), x43 =
IntKind.wrap .u64 (bitsOf BinOp.xor IntKind.u64 x42 (3 : Int)) → ∀ (x44 : Int), QYstP_1 x44 x36 x43 → (0 : Int) ≤ (32 : Int) ∧ ∀ (x45 : Int), x45 = IntKind.wrap .u64 (x44 *
(4294967296 : Int)) → (0 : Int) ≤ (32 : Int) ∧ ∀ (x46 : Int), x46 = Int.fdiv x44 (4294967296 : Int) → ∀ (x47 : Int), QYstP_2 x47 x45 x46 → ∀ (x48 : Int), x48 = IntKind.wrap .u64
(x37 + x47) → ∀ (x49 : Int), QYstP_1 x49 x41 x48 → (0 : Int) ≤ (24 : Int) ∧ ∀ (x50 : Int), x50 = IntKind.wrap .u64 (x49 * (16777216 : Int)) → (0 : Int) ≤ (40 : Int) ∧ ∀ (x51 :
Int), x51 = Int.fdiv x49 (1099511627776 : Int) → ∀ (x52 : Int), QYstP_2 x52 x50 x51 → ∀ (x53 : Int), x53 = IntKind.wrap .u64 (x43 + x52) → ∀ (x54 : Int), QYstP_1 x54 x47 x53 → (0 :
Int) ≤ (16 : Int) ∧ ∀ (x55 : Int), x55 = IntKind.wrap .u64 (x54 * (65536 : Int)) → (0 : Int) ≤ (48 : Int) ∧ ∀ (x56 : Int), x56 = Int.fdiv x54 (281474976710656 : Int) → ∀ (x57 :
Int), QYstP_2 x57 x55 x56 → ∀ (x58 : Int), x58 = IntKind.wrap .u64 (x48 + x57) → ∀ (x59 : Int), QYstP_1 x59 x52 x58 → (0 : Int) ≤ (63 : Int) ∧ ∀ (x60 : Int), QYstP_3 x60 x59 → (0 :
Int) ≤ (1 : Int) ∧ ∀ (x61 : Int), x61 = Int.fdiv x59 (2 : Int) → ∀ (x62 : Int), QYstP_2 x62 x60 x61 → ∀ (x63 : Int), x63 = IntKind.wrap .u64 (x53 + x62) → ∀ (x64 : Int), x64 =
IntKind.wrap .u64 (bitsOf BinOp.xor IntKind.u64 x63 (4 : Int)) → ∀ (x65 : Int), QYstP_1 x65 x57 x64 → (0 : Int) ≤ (32 : Int) ∧ ∀ (x66 : Int), x66 = IntKind.wrap .u64 (x65 *
(4294967296 : Int)) → (0 : Int) ≤ (32 : Int) ∧ ∀ (x67 : Int), x67 = Int.fdiv x65 (4294967296 : Int) → ∀ (x68 : Int), QYstP_2 x68 x66 x67 → ∀ (x69 : Int), x69 = IntKind.wrap .u64
(x58 + x68) → ∀ (x70 : Int), QYstP_1 x70 x62 x69 → (0 : Int) ≤ (24 : Int) ∧ ∀ (x71 : Int), x71 = IntKind.wrap .u64 (x70 * (16777216 : Int)) → (0 : Int) ≤ (40 : Int) ∧ ∀ (x72 :
Int), x72 = Int.fdiv x70 (1099511627776 : Int) → ∀ (x73 : Int), QYstP_2 x73 x71 x72 → ∀ (x74 : Int), x74 = IntKind.wrap .u64 (x64 + x73) → ∀ (x75 : Int), QYstP_1 x75 x68 x74 → (0 :
Int) ≤ (16 : Int) ∧ ∀ (x76 : Int), x76 = IntKind.wrap .u64 (x75 * (65536 : Int)) → (0 : Int) ≤ (48 : Int) ∧ ∀ (x77 : Int), x77 = Int.fdiv x75 (281474976710656 : Int) → ∀ (x78 :
Int), QYstP_2 x78 x76 x77 → ∀ (x79 : Int), x79 = IntKind.wrap .u64 (x69 + x78) → ∀ (x80 : Int), QYstP_1 x80 x73 x79 → (0 : Int) ≤ (63 : Int) ∧ ∀ (x81 : Int), QYstP_3 x81 x80 → (0 :
Int) ≤ (1 : Int) ∧ ∀ (x82 : Int), x82 = Int.fdiv x80 (2 : Int) → ∀ (x83 : Int), QYstP_2 x83 x81 x82 → ∀ (x84 : Int), x84 = IntKind.wrap .u64 (x74 + x83) → ∀ (x85 : Int), x85 =
IntKind.wrap .u64 (bitsOf BinOp.xor IntKind.u64 x84 (5 : Int)) → ∀ (x86 : Int), QYstP_1 x86 x78 x85 → (0 : Int) ≤ (32 : Int) ∧ ∀ (x87 : Int), x87 = IntKind.wrap .u64 (x86 *
(4294967296 : Int)) → (0 : Int) ≤ (32 : Int) ∧ ∀ (x88 : Int), x88 = Int.fdiv x86 (4294967296 : Int) → ∀ (x89 : Int), QYstP_2 x89 x87 x88 → ∀ (x90 : Int), x90 = IntKind.wrap .u64
(x79 + x89) → ∀ (x91 : Int), QYstP_1 x91 x83 x90 → (0 : Int) ≤ (24 : Int) ∧ ∀ (x92 : Int), x92 = IntKind.wrap .u64 (x91 * (16777216 : Int)) → (0 : Int) ≤ (40 : Int) ∧ ∀ (x93 :
Int), x93 = Int.fdiv x91 (1099511627776 : Int) → ∀ (x94 : Int), QYstP_2 x94 x92 x93 → ∀ (x95 : Int), x95 = IntKind.wrap .u64 (x85 + x94) → ∀ (x96 : Int), QYstP_1 x96 x89 x95 → (0 :
Int) ≤ (16 : Int) ∧ ∀ (x97 : Int), x97 = IntKind.wrap .u64 (x96 * (65536 : Int)) → (0 : Int) ≤ (48 : Int) ∧ ∀ (x98 : Int), x98 = Int.fdiv x96 (281474976710656 : Int) → ∀ (x99 :
Int), QYstP_2 x99 x97 x98 → ∀ (x100 : Int), x100 = IntKind.wrap .u64 (x90 + x99) → ∀ (x101 : Int), QYstP_1 x101 x94 x100 → (0 : Int) ≤ (63 : Int) ∧ ∀ (x102 : Int), QYstP_3 x102
x101 → (0 : Int) ≤ (1 : Int) ∧ ∀ (x103 : Int), x103 = Int.fdiv x101 (2 : Int) → ∀ (x104 : Int), QYstP_2 x104 x102 x103 → ∀ (x105 : Int), x105 = IntKind.wrap .u64 (x95 + x104) → ∀
(x106 : Int), x106 = IntKind.wrap .u64 (bitsOf BinOp.xor IntKind.u64 x105 (6 : Int)) → ∀ (x107 : Int), QYstP_1 x107 x99 x106 → (0 : Int) ≤ (32 : Int) ∧ ∀ (x108 : Int), x108 =
IntKind.wrap .u64 (x107 * (4294967296 : Int)) → (0 : Int) ≤ (32 : Int) ∧ ∀ (x109 : Int), x109 = Int.fdiv x107 (4294967296 : Int) → ∀ (x110 : Int), QYstP_2 x110 x108 x109 → ∀ (x111
: Int), x111 = IntKind.wrap .u64 (x100 + x110) → ∀ (x112 : Int), QYstP_1 x112 x104 x111 → (0 : Int) ≤ (24 : Int) ∧ ∀ (x113 : Int), x113 = IntKind.wrap .u64 (x112 * (16777216 :
Int)) → (0 : Int) ≤ (40 : Int) ∧ ∀ (x114 : Int), x114 = Int.fdiv x112 (1099511627776 : Int) → ∀ (x115 : Int), QYstP_2 x115 x113 x114 → ∀ (x116 : Int), x116 = IntKind.wrap .u64
(x106 + x115) → ∀ (x117 : Int), QYstP_1 x117 x110 x116 → (0 : Int) ≤ (16 : Int) ∧ ∀ (x118 : Int), x118 = IntKind.wrap .u64 (x117 * (65536 : Int)) → (0 : Int) ≤ (48 : Int) ∧ ∀ (x119
: Int), x119 = Int.fdiv x117 (281474976710656 : Int) → ∀ (x120 : Int), QYstP_2 x120 x118 x119 → ∀ (x121 : Int), x121 = IntKind.wrap .u64 (x111 + x120) → ∀ (x122 : Int), QYstP_1
x122 x115 x121 → (0 : Int) ≤ (63 : Int) ∧ ∀ (x123 : Int), QYstP_3 x123 x122 → (0 : Int) ≤ (1 : Int) ∧ ∀ (x124 : Int), x124 = Int.fdiv x122 (2 : Int) → ∀ (x125 : Int), QYstP_2 x125
x123 x124 → ∃ (x126 : W4), x126 = stirC a ∧ True ∧ (True ∧ x126.1 = x116 ∧ x126.2 = x125 ∧ x126.3 = x121 ∧ x126.4 = x120 ∧ True) ∧ True) := by kernel_rfl
theorem half1_ok {r w0 w1 w2 w3 a b c d e f g h i j k : Int} (ea : a = IntKind.wrap .u64 (w0 + w1)) (eb : b = IntKind.wrap .u64 (bitsOf .xor .u64 a r)) (ec : c = IntKind.wrap .u64 (bitsOf .xor .u64 w3 b)) (ed : d = IntKind.wrap .u64 (c * 4294967296)) (ee : e = Int.fdiv c 4294967296) (ef : f = IntKind.wrap .u64 (bitsOf .or .u64 d e))
    (eg : g = IntKind.wrap .u64 (w2 + f)) (eh : h = IntKind.wrap .u64 (bitsOf .xor .u64 w1 g)) (ei : i = IntKind.wrap .u64 (h * 16777216)) (ej : j = Int.fdiv h 1099511627776) (ek : k = IntKind.wrap .u64 (bitsOf .or .u64 i j)) : half1 r ⟨w0, w1, w2, w3⟩ = ⟨b, k, g, f⟩ := by
  subst ek ei ej eh eg ef ed ee ec eb ea; rfl
theorem half2_ok {w0 w1 w2 w3 a c d e f g h i j k : Int} (ea : a = IntKind.wrap .u64 (w0 + w1)) (ec : c = IntKind.wrap .u64 (bitsOf .xor .u64 w3 a)) (ed : d = IntKind.wrap .u64 (c * 65536)) (ee : e = Int.fdiv c 281474976710656) (ef : f = IntKind.wrap .u64 (bitsOf .or .u64 d e))
    (eg : g = IntKind.wrap .u64 (w2 + f)) (eh : h = IntKind.wrap .u64 (bitsOf .xor .u64 w1 g)) (ei : i = IntKind.wrap .u64 (h * 9223372036854775808)) (ej : j = Int.fdiv h 2) (ek : k = IntKind.wrap .u64 (bitsOf .or .u64 i j)) : half2 ⟨w0, w1, w2, w3⟩ = ⟨a, k, g, f⟩ := by
  subst ek ei ej eh eg ef ed ee ec ea; rfl
theorem g_stirA (a : W4) : G_stirA a := by
  rw [vc_stirA]
  refine ⟨?_, ?_⟩
  · repeat' first
      | with_reducible apply And.intro
      | exact trivial
      | exact rfl
  intro x0 e0 x1 e1 x2 e2
  refine ⟨by decide, fun x3 e3 => ⟨by decide, fun x4 e4 x5 e5 x6 e6 x7 e7 => ⟨by decide, fun x8 e8 => ⟨by decide, fun x9 e9 x10 e10 => ?_⟩⟩⟩⟩
  have h0 := half1_ok e0 e1 e2 e3 e4 e5 e6 e7 e8 e9 e10
  intro x11 e11 x12 e12
  refine ⟨by decide, fun x13 e13 => ⟨by decide, fun x14 e14 x15 e15 x16 e16 x17 e17 => ⟨by decide, fun x18 e18 => ⟨by decide, fun x19 e19 x20 e20 => ?_⟩⟩⟩⟩
  have h1 := half2_ok e11 e12 e13 e14 e15 e16 e17 e18 e19 e20
  intro x21 e21 x22 e22 x23 e23
  refine ⟨by decide, fun x24 e24 => ⟨by decide, fun x25 e25 x26 e26 x27 e27 x28 e28 => ⟨by decide, fun x29 e29 => ⟨by decide, fun x30 e30 x31 e31 => ?_⟩⟩⟩⟩
  have h2 := half1_ok e21 e22 e23 e24 e25 e26 e27 e28 e29 e30 e31
  intro x32 e32 x33 e33
  refine ⟨by decide, fun x34 e34 => ⟨by decide, fun x35 e35 x36 e36 x37 e37 x38 e38 => ⟨by decide, fun x39 e39 => ⟨by decide, fun x40 e40 x41 e41 => ?_⟩⟩⟩⟩
  have h3 := half2_ok e32 e33 e34 e35 e36 e37 e38 e39 e40 e41
  intro x42 e42 x43 e43 x44 e44
  refine ⟨by decide, fun x45 e45 => ⟨by decide, fun x46 e46 x47 e47 x48 e48 x49 e49 => ⟨by decide, fun x50 e50 => ⟨by decide, fun x51 e51 x52 e52 => ?_⟩⟩⟩⟩
  have h4 := half1_ok e42 e43 e44 e45 e46 e47 e48 e49 e50 e51 e52
  intro x53 e53 x54 e54
  refine ⟨by decide, fun x55 e55 => ⟨by decide, fun x56 e56 x57 e57 x58 e58 x59 e59 => ⟨by decide, fun x60 e60 => ⟨by decide, fun x61 e61 x62 e62 => ?_⟩⟩⟩⟩
  have h5 := half2_ok e53 e54 e55 e56 e57 e58 e59 e60 e61 e62
  intro x63 e63 x64 e64 x65 e65
  refine ⟨by decide, fun x66 e66 => ⟨by decide, fun x67 e67 x68 e68 x69 e69 x70 e70 => ⟨by decide, fun x71 e71 => ⟨by decide, fun x72 e72 x73 e73 => ?_⟩⟩⟩⟩
  have h6 := half1_ok e63 e64 e65 e66 e67 e68 e69 e70 e71 e72 e73
  intro x74 e74 x75 e75
  refine ⟨by decide, fun x76 e76 => ⟨by decide, fun x77 e77 x78 e78 x79 e79 x80 e80 => ⟨by decide, fun x81 e81 => ⟨by decide, fun x82 e82 x83 e83 => ?_⟩⟩⟩⟩
  have h7 := half2_ok e74 e75 e76 e77 e78 e79 e80 e81 e82 e83
  intro x84 e84 x85 e85 x86 e86
  refine ⟨by decide, fun x87 e87 => ⟨by decide, fun x88 e88 x89 e89 x90 e90 x91 e91 => ⟨by decide, fun x92 e92 => ⟨by decide, fun x93 e93 x94 e94 => ?_⟩⟩⟩⟩
  have h8 := half1_ok e84 e85 e86 e87 e88 e89 e90 e91 e92 e93 e94
  intro x95 e95 x96 e96
  refine ⟨by decide, fun x97 e97 => ⟨by decide, fun x98 e98 x99 e99 x100 e100 x101 e101 => ⟨by decide, fun x102 e102 => ⟨by decide, fun x103 e103 x104 e104 => ?_⟩⟩⟩⟩
  have h9 := half2_ok e95 e96 e97 e98 e99 e100 e101 e102 e103 e104
  intro x105 e105 x106 e106 x107 e107
  refine ⟨by decide, fun x108 e108 => ⟨by decide, fun x109 e109 x110 e110 x111 e111 x112 e112 => ⟨by decide, fun x113 e113 => ⟨by decide, fun x114 e114 x115 e115 => ?_⟩⟩⟩⟩
  have h10 := half1_ok e105 e106 e107 e108 e109 e110 e111 e112 e113 e114 e115
  intro x116 e116 x117 e117
  refine ⟨by decide, fun x118 e118 => ⟨by decide, fun x119 e119 x120 e120 x121 e121 x122 e122 => ⟨by decide, fun x123 e123 => ⟨by decide, fun x124 e124 x125 e125 => ?_⟩⟩⟩⟩
  have h11 := half2_ok e116 e117 e118 e119 e120 e121 e122 e123 e124 e125
  have hs : stirC a = ⟨x116, x125, x121, x120⟩ := by
    unfold stirC rndC
    rw [show a = ⟨a.w0, a.w1, a.w2, a.w3⟩ from rfl]
    rw [h0, h1, h2, h3, h4, h5, h6, h7, h8, h9, h10, h11]
  exact ⟨stirC a, rfl, trivial, ⟨trivial, by rw [hs]; exact ⟨rfl, rfl, rfl, rfl, trivial⟩⟩, trivial⟩
theorem s_stirA : SpecOK Tryz.prog S_stirA.spec := fun a => specD_at (an := []) envOK (cwN_ok (fun _ h => h) 2) fun _ => g_stirA a
end Go.Proofs.YtdjnipabfbblnaaGreatDoor
end

/- Digests: what is told of taking in, of bytes, of Of (what is to be shown). -/
section
set_option maxRecDepth 100000
namespace Go.Proofs.YtdjnipabfbblnaaGreatDoor
open Go.Ev
-- keep num foldI dnum frm stirC rotC xorC addC half1 half2 rndC takeC chk wC endW ofC Go.Ev.Sli Go.Ev.HV
structure WN where
  w : W4
  n : Int
def takeC (w : W4) (n : Int) : W4 := stirC ⟨xorC w.w0 n, w.w1, w.w2, w.w3⟩
def chk (ys : List Int) (i : Nat) : D8 := ⟨ys.getD (8 * i) 0, ys.getD (8 * i + 1) 0, ys.getD (8 * i + 2) 0, ys.getD (8 * i + 3) 0, ys.getD (8 * i + 4) 0, ys.getD (8 * i + 5) 0, ys.getD (8 * i + 6) 0, ys.getD (8 * i + 7) 0⟩
def wC (w : W4) (ys : List Int) : Nat → W4
  | 0 => w
  | k + 1 => takeC (wC w ys k) (dnum (chk ys k).l)
def endW (w : W4) (xs : List Int) : W4 := takeC (takeC w (dnum (chk (xs ++ [1]) (xs.length / 8)).l)) xs.length
def ofC (xs : List Int) : D8 := frm (xorC (endW (wC ⟨2611923443488327891, 1376283091369227076, 11820040416388919760, 1⟩ (xs ++ [1]) (xs.length / 8)) xs).w0 (endW (wC ⟨2611923443488327891, 1376283091369227076, 11820040416388919760, 1⟩ (xs ++ [1]) (xs.length / 8)) xs).w2)
set_option linter.unusedSectionVars false
variable [Go.Ev.Frozen Tryz.prog]
noncomputable section
def w4K {β : Type} (r : List Value) (k : W4 → Option β) : Option β := wI (lv r 0) fun a => wI (lv r 1) fun c => wI (lv r 2) fun d => wI (lv r 3) fun e => k ⟨a, c, d, e⟩
def S_takeA : SpecD where
  f := 45
  α := WN
  args a := [.pointer (some ⟨13, 0, none⟩), tgI .u64 a.n]
  R a := [(13, .p (.row a.w.c 105 .own))]
  n := 13 + 1
  pre _ := True
  outs := [⟨W4, fun a b => b = takeC a.w a.n, fun _ _ => .tuple ⟨[]⟩, fun _ b => [(13, .p (.row b.c 105 .own))], fun _ _ => 13 + 1, fun _ _ => []⟩]
  pick _ _ := 0
  find l A := ptK (lv l 0) fun b => rowK A b fun r => w4K r fun w => wI (lv l 1) fun n => some (⟨w, n⟩, [(13, b)])
def G_takeA (a : WN) : Prop := fnW Tryz.prog E0 (cwD Tryz.prog S_stirA cw0) [] S_takeA.f (S_takeA.args a) (mem (S_takeA.R a) S_takeA.n) (endD Tryz.prog S_takeA a)
end
end Go.Proofs.YtdjnipabfbblnaaGreatDoor
end

/- Digests: what is told of taking in, of bytes, of Of is so. -/
section
set_option maxRecDepth 100000
namespace Go.Proofs.YtdjnipabfbblnaaGreatDoor
open Go.Ev
set_option linter.unusedSectionVars false
variable [Go.Ev.Frozen Tryz.prog]
theorem vc_takeA (a : WN) : G_takeA a = (∀ x0, x0 = IntKind.wrap .u64 (bitsOf BinOp.xor IntKind.u64 a.1.1 a.2) → (True ∧ True ∧ True ∧ True ∧ True ∧ True ∧ True ∧ True ∧ True ∧ True) ∧ (True ∧ True) ∧ ((0 = 0 ∧ True) ∧
(True ∧ x0 = x0 ∧ a.1.2 = a.1.2 ∧ a.1.3 = a.1.3 ∧ a.1.4 = a.1.4 ∧ True) ∧ True) ∧ (∀ (x1 : W4), x1 = stirC (W4.mk x0 a.1.2 a.1.3 a.1.4) → ∃ (x2 : W4), x2 = takeC a.1 a.2 ∧ True ∧
(True ∧ x2.1 = x1.1 ∧ x2.2 = x1.2 ∧ x2.3 = x1.3 ∧ x2.4 = x1.4 ∧ True) ∧ True) ∧ True) := by kernel_rfl
theorem g_takeA (a : WN) : G_takeA a := by
  rw [vc_takeA]
  intro x0 e0
  refine ⟨?_, ⟨trivial, trivial⟩, ?_, fun x1 e1 => ⟨takeC a.w a.n, rfl, trivial, ?_, trivial⟩, trivial⟩
  · repeat' first | with_reducible apply And.intro | exact trivial | exact rfl | assumption
  · repeat' first | with_reducible apply And.intro | exact trivial | exact rfl | assumption
  · subst e0 e1
    exact ⟨trivial, rfl, rfl, rfl, rfl, trivial⟩
theorem s_takeA : SpecOK Tryz.prog S_takeA.spec := fun a => specD_at (an := []) envOK (cwD_ok s_stirA cw0_ok) fun _ => g_takeA a
theorem HW.oneC {α : Type} {f : α → Value} {z : α} : HW f [f z] [z] := ⟨rfl, fun i x h => by
  cases i with
  | zero => cases h; exact .inl rfl
  | succ i => simp at h⟩
end Go.Proofs.YtdjnipabfbblnaaGreatDoor
end

/- Whether positions are the same: what is told of slices.Equal, of game.Same, of a position's digest (what is to be shown). -/
section
set_option maxRecDepth 100000
namespace Go.Proofs.YtdjnipabfbblnaaGreatDoor
open Go.Ev
-- keep num foldI dnum frm encV encG encT enc1 enc2 enc3 enc Go.Ev.Sli PH PW OwB Byts8 ofC
structure P2G where
  a : PA
  b : PA
structure RollsEq (a b : PA) : Prop where
  r0 : a.r0 = b.r0
  r1 : a.r1 = b.r1
  r2 : a.r2 = b.r2
  r3 : a.r3 = b.r3
  r4 : a.r4 = b.r4
set_option linter.unusedSectionVars false
variable [Go.Ev.Frozen Tryz.prog]
noncomputable section
def paK {β : Type} (A : AW) (i : Nat) (l : List Value) (k : PA → List (Nat × Nat) → Option β) : Option β := saK A i (lv l 0) fun s1 q1 => saK A (i + 1) (lv l 1) fun s2 q2 => saK A (i + 2) (lv l 2) fun s3 q3 => wI (lv l 3) fun r0 => wI (lv l 4) fun r1 => wI (lv l 5) fun r2 => wI (lv l 6) fun r3 => wI (lv l 7) fun r4 => k ⟨s1, s2, s3, r0, r1, r2, r3, r4⟩ (q1 ++ (q2 ++ q3))
def eqPick (v : Value) : Nat := match v with
  | .bool true => 0
  | _ => 1
def S_eqi32 : SpecD where
  f := 53
  α := S2
  args a := [a.a.v 13, a.b.v (13 + 1)]
  R a := [(13, .f a.a.c 21 .gro), (13 + 1, .f a.b.c 21 .gro)]
  n := 13 + 2
  pre a := (∃ xs ys, Sli (Value.int .i32) 1 a.a.n a.a.o a.a.l a.a.k a.a.c xs ∧ Sli (Value.int .i32) 1 a.b.n a.b.o a.b.l a.b.k a.b.c ys) ∧ (a.a.l ≤ 1000000 ∧ a.b.l ≤ 1000000)
  outs := [⟨Unit, fun a _ => ∀ xs ys, Sli (Value.int .i32) 1 a.a.n a.a.o a.a.l a.a.k a.a.c xs → Sli (Value.int .i32) 1 a.b.n a.b.o a.b.l a.b.k a.b.c ys → xs = ys, fun _ _ => .bool true, fun _ _ => [], fun _ _ => 13 + 2, fun _ _ => []⟩,
    ⟨Unit, fun a _ => ∀ xs ys, Sli (Value.int .i32) 1 a.a.n a.a.o a.a.l a.a.k a.a.c xs → Sli (Value.int .i32) 1 a.b.n a.b.o a.b.l a.b.k a.b.c ys → xs ≠ ys, fun _ _ => .bool false, fun _ _ => [], fun _ _ => 13 + 2, fun _ _ => []⟩]
  pick v _ := eqPick v
  find l A := saK A 13 (lv l 0) fun a r => saK A (13 + 1) (lv l 1) fun b q => some (⟨a, b⟩, r ++ q)
def S_eqbool : SpecD where
  f := 54
  α := S2
  args a := [a.a.v 13, a.b.v (13 + 1)]
  R a := [(13, .f a.a.c 4 .gro), (13 + 1, .f a.b.c 4 .gro)]
  n := 13 + 2
  pre a := (∃ xs ys, Sli (Value.bool) 1 a.a.n a.a.o a.a.l a.a.k a.a.c xs ∧ Sli (Value.bool) 1 a.b.n a.b.o a.b.l a.b.k a.b.c ys) ∧ (a.a.l ≤ 1000000 ∧ a.b.l ≤ 1000000)
  outs := [⟨Unit, fun a _ => ∀ xs ys, Sli (Value.bool) 1 a.a.n a.a.o a.a.l a.a.k a.a.c xs → Sli (Value.bool) 1 a.b.n a.b.o a.b.l a.b.k a.b.c ys → xs = ys, fun _ _ => .bool true, fun _ _ => [], fun _ _ => 13 + 2, fun _ _ => []⟩,
    ⟨Unit, fun a _ => ∀ xs ys, Sli (Value.bool) 1 a.a.n a.a.o a.a.l a.a.k a.a.c xs → Sli (Value.bool) 1 a.b.n a.b.o a.b.l a.b.k a.b.c ys → xs ≠ ys, fun _ _ => .bool false, fun _ _ => [], fun _ _ => 13 + 2, fun _ _ => []⟩]
  pick v _ := eqPick v
  find l A := saK A 13 (lv l 0) fun a r => saK A (13 + 1) (lv l 1) fun b q => some (⟨a, b⟩, r ++ q)
def S_eqdig : SpecD where
  f := 55
  α := S2
  args a := [a.a.v 13, a.b.v (13 + 1)]
  R a := [(13, .f a.a.c 50 .gro), (13 + 1, .f a.b.c 50 .gro)]
  n := 13 + 2
  pre a := (∃ xs ys, Sli (Value.int .u8) 8 a.a.n a.a.o a.a.l a.a.k a.a.c xs ∧ Sli (Value.int .u8) 8 a.b.n a.b.o a.b.l a.b.k a.b.c ys) ∧ (a.a.l ≤ 1000000 ∧ a.b.l ≤ 1000000)
  outs := [⟨Unit, fun a _ => ∀ xs ys, Sli (Value.int .u8) 8 a.a.n a.a.o a.a.l a.a.k a.a.c xs → Sli (Value.int .u8) 8 a.b.n a.b.o a.b.l a.b.k a.b.c ys → xs = ys, fun _ _ => .bool true, fun _ _ => [], fun _ _ => 13 + 2, fun _ _ => []⟩,
    ⟨Unit, fun a _ => ∀ xs ys, Sli (Value.int .u8) 8 a.a.n a.a.o a.a.l a.a.k a.a.c xs → Sli (Value.int .u8) 8 a.b.n a.b.o a.b.l a.b.k a.b.c ys → xs ≠ ys, fun _ _ => .bool false, fun _ _ => [], fun _ _ => 13 + 2, fun _ _ => []⟩]
  pick v _ := eqPick v
  find l A := saK A 13 (lv l 0) fun a r => saK A (13 + 1) (lv l 1) fun b q => some (⟨a, b⟩, r ++ q)
def la_eqi32 (a : S2) (xs ys : List Int) : LA where
  α := IL
  at_ e := ⟨[(0, a.a.v 13), (1, a.b.v (13 + 1)), (12, tgI .i64 a.a.l), (13, tgI .i64 e.i)], S_eqi32.R a, 13 + 2⟩
  J e := (0 ≤ e.i ∧ e.i ≤ a.a.l) ∧ xs.take (1 * e.i.toNat) = ys.take (1 * e.i.toNat)
  μ e := (a.a.l - e.i).toNat
  ren _ := []
def G_eqi32 (a : S2) (xs ys : List Int) : Prop := fnW Tryz.prog E0 cw0 [some (la_eqi32 a xs ys)] S_eqi32.f (S_eqi32.args a) (mem (S_eqi32.R a) S_eqi32.n) (endD Tryz.prog S_eqi32 a)
def la_eqbool (a : S2) (xs ys : List Bool) : LA where
  α := IL
  at_ e := ⟨[(0, a.a.v 13), (1, a.b.v (13 + 1)), (12, tgI .i64 a.a.l), (13, tgI .i64 e.i)], S_eqbool.R a, 13 + 2⟩
  J e := (0 ≤ e.i ∧ e.i ≤ a.a.l) ∧ xs.take (1 * e.i.toNat) = ys.take (1 * e.i.toNat)
  μ e := (a.a.l - e.i).toNat
  ren _ := []
def G_eqbool (a : S2) (xs ys : List Bool) : Prop := fnW Tryz.prog E0 cw0 [some (la_eqbool a xs ys)] S_eqbool.f (S_eqbool.args a) (mem (S_eqbool.R a) S_eqbool.n) (endD Tryz.prog S_eqbool a)
def la_eqdig (a : S2) (xs ys : List Int) : LA where
  α := IL
  at_ e := ⟨[(0, a.a.v 13), (1, a.b.v (13 + 1)), (12, tgI .i64 a.a.l), (13, tgI .i64 e.i)], S_eqdig.R a, 13 + 2⟩
  J e := (0 ≤ e.i ∧ e.i ≤ a.a.l) ∧ xs.take (8 * e.i.toNat) = ys.take (8 * e.i.toNat)
  μ e := (a.a.l - e.i).toNat
  ren _ := []
def G_eqdig (a : S2) (xs ys : List Int) : Prop := fnW Tryz.prog E0 cw0 [some (la_eqdig a xs ys)] S_eqdig.f (S_eqdig.args a) (mem (S_eqdig.R a) S_eqdig.n) (endD Tryz.prog S_eqdig a)
def S_gsame : SpecD where
  f := 21
  α := P2G
  args a := [a.a.v 13, a.b.v (13 + 3)]
  R a := a.a.R 13 50 ++ a.b.R (13 + 3) 50
  n := 13 + 6
  pre a := ((∃ x, PH a.a x) ∧ ∃ x, PH a.b x) ∧ ((a.a.s1.l ≤ 1000 ∧ a.a.s2.l ≤ 1000 ∧ a.a.s3.l ≤ 1000) ∧ (a.b.s1.l ≤ 1000 ∧ a.b.s2.l ≤ 1000 ∧ a.b.s3.l ≤ 1000))
  outs := [⟨BL, fun a b => ∀ x y, PH a.a x → PH a.b y → (b.b = true ↔ x = y ∧ RollsEq a.a a.b), fun _ b => tg (.bool b.b), fun _ _ => [], fun _ _ => 13 + 6, fun _ _ => []⟩]
  pick _ _ := 0
  find l A := paK A 13 (agv (lv l 0)) fun a r => paK A (13 + 3) (agv (lv l 1)) fun b q => some ((⟨a, b⟩ : P2G), r ++ q)
def G_gsame (a : P2G) : Prop := fnW Tryz.prog E0 (cwD Tryz.prog S_eqi32 (cwD Tryz.prog S_eqbool (cwD Tryz.prog S_eqdig cw0))) [] S_gsame.f (S_gsame.args a) (mem (S_gsame.R a) S_gsame.n) (endD Tryz.prog S_gsame a)
end
end Go.Proofs.YtdjnipabfbblnaaGreatDoor
end

/- Positions out of bytes: what is told of both Decodes (what is to be shown). -/
section
set_option maxRecDepth 100000
namespace Go.Proofs.YtdjnipabfbblnaaGreatDoor
open Go.Ev
-- keep num foldI dnum frm Go.Ev.Sli lookN Byts8 valN lead rdC rsC wdC wsC dvC dWC dgC dGC dtC dTC r0C r1C r2C r3C r4C decP endC unfI OwB Go.Ev.HV LC LF RI tipsL goneL
structure LN where
  at_ : Int
  e : Int
  ns : List Int
def rsC (bs : List Int) (m : Int) : Nat → Int → Int → LN
  | 0, p, e => ⟨p, e, []⟩
  | n + 1, p, e => if e ≠ 0 then ⟨p, e, []⟩ else ⟨(rsC bs m n (rdC bs p 0 m).at_ (rdC bs p 0 m).e).at_, (rsC bs m n (rdC bs p 0 m).at_ (rdC bs p 0 m).e).e, (rdC bs p 0 m).n :: (rsC bs m n (rdC bs p 0 m).at_ (rdC bs p 0 m).e).ns⟩
def dvC (bs : List Int) : RR := rdC bs 0 0 64
def dWC (bs : List Int) : LW := wsC bs (dvC bs).n.toNat (dvC bs).at_ (dvC bs).e
def dgC (bs : List Int) : RR := rdC bs (dWC bs).at_ (dWC bs).e 8
def dGC (bs : List Int) : LN := rsC bs 1 (dgC bs).n.toNat (dgC bs).at_ (dgC bs).e
def dtC (bs : List Int) : RR := rdC bs (dGC bs).at_ (dGC bs).e 8
def dTC (bs : List Int) : LN := rsC bs 18446744073709551615 (dtC bs).n.toNat (dtC bs).at_ (dtC bs).e
def r0C (bs : List Int) : RR := rdC bs (dTC bs).at_ (dTC bs).e 18446744073709551615
def r1C (bs : List Int) : RR := rdC bs (r0C bs).at_ (r0C bs).e 18446744073709551615
def r2C (bs : List Int) : RR := rdC bs (r1C bs).at_ (r1C bs).e 18446744073709551615
def r3C (bs : List Int) : RR := rdC bs (r2C bs).at_ (r2C bs).e 18446744073709551615
def r4C (bs : List Int) : RR := rdC bs (r3C bs).at_ (r3C bs).e 18446744073709551615
structure DP where
  e : Int
  v : List Int
  g : List Bool
  t : List Int
  r0 : Int
  r1 : Int
  r2 : Int
  r3 : Int
  r4 : Int
def goneL (ns : List Int) : List Bool := ns.map fun n => decide (n = 1)
def tipsL (ns : List Int) : List Int := ns.flatMap fun n => (frm n).l
def decP (bs : List Int) : DP := ⟨endC bs (r4C bs).at_ (r4C bs).e, (dWC bs).ws, goneL (dGC bs).ns, tipsL (dTC bs).ns, unfI (r0C bs).n, unfI (r1C bs).n, unfI (r2C bs).n, unfI (r3C bs).n, (r4C bs).n⟩
structure LF {α : Type} (f : α → Value) (sz : Nat) (s : SN) (ys : List α) : Prop where
  he : Go.Ev.HW f s.c ys
  l : ys.length = s.l * sz
  le : s.l ≤ s.k
  nil : s.n = true → ys = [] ∧ s.k = 0
structure PR where
  v : SN
  g : SN
  t : SN
  r0 : Int
  r1 : Int
  r2 : Int
  r3 : Int
  r4 : Int
set_option linter.unusedSectionVars false
variable [Go.Ev.Frozen Tryz.prog]
noncomputable section
abbrev PR.w (b : PR) (i : Nat) : List Value := b.v.v i :: b.g.v (i + 1) :: b.t.v (i + 2) :: [tgI .i64 b.r0, tgI .i64 b.r1, tgI .i64 b.r2, tgI .i64 b.r3, tgI .u64 b.r4]
end
end Go.Proofs.YtdjnipabfbblnaaGreatDoor
end

/- Positions out of bytes: what is told of the document's Decode is so. -/
section
set_option maxRecDepth 100000
namespace Go.Proofs.YtdjnipabfbblnaaGreatDoor
open Go.Ev
set_option linter.unusedSectionVars false
variable [Go.Ev.Frozen Tryz.prog]
theorem LF.none {α : Type} {f : α → Value} {sz : Nat} : LF f sz ⟨true, 0, 0, []⟩ ([] : List α) := ⟨.nil, by simp, Nat.le_refl _, fun _ => ⟨rfl, rfl⟩⟩
theorem LF.one {α : Type} {f : α → Value} {sz : Nat} {vs : List Value} {zs : List α} (h : HW f vs zs) (hl : zs.length = sz) : LF f sz ⟨false, 1, 1, vs⟩ zs := ⟨h, by simp [hl], Nat.le_refl _, fun h => by cases h⟩
theorem LF.snoc {α : Type} {f : α → Value} {sz : Nat} {s : SN} {ys zs : List α} {vs : List Value} (h : LF f sz s ys) (g : HW f vs zs) (hl : zs.length = sz) {n k : Nat} (hn : n = s.l + 1) (hk : k = if n ≤ s.k then s.k else n) : LF f sz ⟨false, n, k, s.c ++ vs⟩ (ys ++ zs) :=
  ⟨h.he.append g, by have := h.l; simp [hl, hn, Nat.add_mul, this], by show n ≤ k; rw [hk]; split <;> omega, fun h => by cases h⟩
theorem LF.len {α : Type} {f : α → Value} {sz : Nat} {s : SN} {ys : List α} (h : LF f sz s ys) : s.c.length = s.l * sz := by rw [h.he.len]; exact h.l
theorem HW.oneV {α : Type} {f : α → Value} {z : α} : HW f [f z] [z] := ⟨rfl, fun i x h => by
  cases i with
  | zero => simp at h; subst h; exact .inl rfl
  | succ i => simp at h⟩
end Go.Proofs.YtdjnipabfbblnaaGreatDoor
end

/- Positions out of bytes: what is told of the program's Decode is so. -/
section
set_option maxRecDepth 100000
namespace Go.Proofs.YtdjnipabfbblnaaGreatDoor
open Go.Ev
set_option linter.unusedSectionVars false
variable [Go.Ev.Frozen Tryz.prog]
end Go.Proofs.YtdjnipabfbblnaaGreatDoor
end

/- Moves that are written are read: plain Lean. -/
section
set_option maxRecDepth 100000
namespace Go.Proofs.YtdjnipabfbblnaaGreatDoor
open Go.Ev
set_option linter.unusedSectionVars false
variable [Go.Ev.Frozen Tryz.prog]
theorem dn_step {a b : Int} (h0 : 0 ≤ a) (h1 : a < 72057594037927936) (hb : byt b) : IntKind.wrap .u64 (IntKind.wrap .u64 (a * 256) + IntKind.wrap .u64 b) = a * 256 + b := by
  obtain ⟨b0, b1⟩ := hb
  rw [wrap_u64, wrap_u64 (a * 256), wrap_u64 b]
  omega
theorem dnum_eq {d : D8} (h : d.Ok) : dnum d.l = (((((((0 * 256 + d.d7) * 256 + d.d6) * 256 + d.d5) * 256 + d.d4) * 256 + d.d3) * 256 + d.d2) * 256 + d.d1) * 256 + d.d0 := by
  obtain ⟨⟨a0, b0⟩, ⟨a1, b1⟩, ⟨a2, b2⟩, ⟨a3, b3⟩, ⟨a4, b4⟩, ⟨a5, b5⟩, ⟨a6, b6⟩, ⟨a7, b7⟩⟩ := h
  show dnum [d.d0, d.d1, d.d2, d.d3, d.d4, d.d5, d.d6, d.d7] = _
  unfold dnum
  simp only [List.foldr_cons, List.foldr_nil]
  rw [dn_step (a := 0) (b := d.d7) (by omega) (by omega) ⟨a7, b7⟩, dn_step (b := d.d6) (by omega) (by omega) ⟨a6, b6⟩, dn_step (b := d.d5) (by omega) (by omega) ⟨a5, b5⟩, dn_step (b := d.d4) (by omega) (by omega) ⟨a4, b4⟩, dn_step (b := d.d3) (by omega) (by omega) ⟨a3, b3⟩,
    dn_step (b := d.d2) (by omega) (by omega) ⟨a2, b2⟩, dn_step (b := d.d1) (by omega) (by omega) ⟨a1, b1⟩, dn_step (b := d.d0) (by omega) (by omega) ⟨a0, b0⟩]
end Go.Proofs.YtdjnipabfbblnaaGreatDoor
end

/- What is read has just these bytes: plain Lean. -/
section
set_option maxRecDepth 100000
namespace Go.Proofs.YtdjnipabfbblnaaGreatDoor
open Go.Ev
set_option linter.unusedSectionVars false
variable [Go.Ev.Frozen Tryz.prog]
theorem frm_ok (n : Int) : (frm n).Ok := by
  refine ⟨⟨?_, ?_⟩, ⟨?_, ?_⟩, ⟨?_, ?_⟩, ⟨?_, ?_⟩, ⟨?_, ?_⟩, ⟨?_, ?_⟩, ⟨?_, ?_⟩, ⟨?_, ?_⟩⟩ <;> (unfold frm; dsimp only; omega)
theorem dnum_frm {n : Int} (h : 0 ≤ n) (h2 : n < 18446744073709551616) : dnum (frm n).l = n := by
  rw [dnum_eq (frm_ok n)]
  unfold frm
  dsimp only
  have e1 : n / 65536 = n / 256 / 256 := by omega
  have e2 : n / 16777216 = n / 65536 / 256 := by omega
  have e3 : n / 4294967296 = n / 16777216 / 256 := by omega
  have e4 : n / 1099511627776 = n / 4294967296 / 256 := by omega
  have e5 : n / 281474976710656 = n / 1099511627776 / 256 := by omega
  have e6 : n / 72057594037927936 = n / 281474976710656 / 256 := by omega
  have e7 : n / 72057594037927936 < 256 ∧ 0 ≤ n / 72057594037927936 := by omega
  have e0 : n = n / 256 * 256 + n % 256 := by omega
  generalize n / 72057594037927936 = q7 at *
  generalize n / 281474976710656 = q6 at *
  generalize n / 1099511627776 = q5 at *
  generalize n / 4294967296 = q4 at *
  generalize n / 16777216 = q3 at *
  generalize n / 65536 = q2 at *
  generalize n / 256 = q1 at *
  rw [show 0 * 256 + q7 % 256 = q7 by omega, show q7 * 256 + q6 % 256 = q6 by omega, show q6 * 256 + q5 % 256 = q5 by omega, show q5 * 256 + q4 % 256 = q4 by omega, show q4 * 256 + q3 % 256 = q3 by omega, show q3 * 256 + q2 % 256 = q2 by omega, show q2 * 256 + q1 % 256 = q1 by omega]
  exact e0.symm
end Go.Proofs.YtdjnipabfbblnaaGreatDoor
end

/- Positions that are written: what is read of them never ends too early; two have the same bytes just if they are the same. Plain Lean. -/
section
set_option maxRecDepth 100000
namespace Go.Proofs.YtdjnipabfbblnaaGreatDoor
open Go.Ev
set_option linter.unusedSectionVars false
variable [Go.Ev.Frozen Tryz.prog]
theorem ext_getD {α : Type} (d : α) {xs ys : List α} (hl : xs.length = ys.length) (h : ∀ i, i < xs.length → xs.getD i d = ys.getD i d) : xs = ys := by
  apply List.ext_getElem hl
  intro i h1 h2
  have := h i h1
  simpa [List.getD, h1, h2] using this
end Go.Proofs.YtdjnipabfbblnaaGreatDoor
end
