/- The dice game: its rules out of its text, its first position (what is to be shown). -/
import Derived.Test.YtdjnipabfbblnaaGreatDoorYgm
import Derived.Test.YtdjnipabfbblnaaGreatDoorKnownB
section
set_option maxRecDepth 100000
set_option linter.constructorNameAsVariable false
namespace Go.Proofs.YtdjnipabfbblnaaGreatDoor
open Go.Ev
-- keep sD cD fD w0D w1D w2D w3D w4D XD cdP cdF gmF PH GH GOk PW Byts8 startX num foldI dnum frm oneC lastC rollZ rollOK inAll okPos lenOK Go.Ev.Sli Go.Ev.HV insAt argP rightP hasC farC stepC okAt twoC truthC W32 runC storeC manyC cells1 cells2 cells3 cells4 cells6 cells7 cells8 cells9 cells11
structure StG where
  d : D8
  e : D8
set_option linter.unusedSectionVars false
variable [Go.Ev.Frozen Tryz.prog]
noncomputable section
def cwMade (c : CW) : CW := fun f args A K => Bool.rec (c f args A K) (cpo (hookCall hkB9 noCall f args A) fun p => K p.1 p.2) (Nat.beq f 12)
def slK {β : Type} (v : Value) (k : Nat → Option β) : Option β := match v with
  | .slice (some ⟨b, _, _⟩) _ _ => k b
  | _ => none
def gmN (A : AW) (i : Nat) (v : Value) : List (Nat × Nat) := Option.rec [] (fun q => q) (gmK A i v fun _ q => some q)
def S_parse : SpecD where
  f := 12
  α := Unit
  args _ := hkB9.args
  R _ := [(1, .f cells1 370 .ro), (2, .f cells2 375 .ro), (3, .f cells3 385 .ro), (4, .f cells4 404 .ro), (6, .f cells6 370 .ro), (7, .f cells7 415 .ro), (8, .f cells8 416 .ro), (9, .f cells9 432 .ro), (11, .f cells11 435 .ro)]
  n := 13
  pre _ := True
  outs := [⟨Unit, fun _ _ => True, fun _ _ => .tuple ⟨[.pointer (some ⟨13, 0, none⟩), .int .i64 0]⟩, fun _ _ => gmL gD 13, fun _ _ => 13 + 11, fun v A => gmN A 13 (lv (agv v) 0)⟩]
  pick _ _ := 0
  find _ _ := some ((), [])
def G_parse (a : Unit) : Prop := cwMade cw0 S_parse.f (S_parse.args a) (mem (S_parse.R a) S_parse.n) (endD Tryz.prog S_parse a)
def S_start : SpecD where
  f := 15
  α := StG
  args a := [.pointer (some ⟨13, 0, none⟩), .slice (some ⟨13 + 11, 0, none⟩) 2 2]
  R a := gmL gD 13 ++ ((13 + 11, .p (.row (a.d.c ++ a.e.c) 50 .gro)) :: globM)
  n := 13 + 12
  pre _ := True
  outs := [⟨PA, fun a b => ∃ y, PH b y ∧ b.ps y = ⟨⟨[0, 0], [false, false], a.d.l ++ a.e.l⟩, 0, 0, 0, 0, 0⟩, fun _ b => okP b (13 + 12), fun _ b => b.R (13 + 12) 50, fun _ _ => 13 + 15, fun v _ => paN (13 + 12) (agv (lv (agv v) 0))⟩]
  pick _ _ := 0
  find l A := gmK A 13 (lv l 0) fun _ q => slK (lv l 1) fun b => rowK A b fun r => d8K r fun d => d8K (r.drop 8) fun e => some (⟨d, e⟩, (13 + 11, b) :: q)
def G_start (a : StG) : Prop := (fnW Tryz.prog E0 (cwN (fun c => cwP 0 S_run0 (cwD Tryz.prog S_cldig c)) 3) [] S_start.f (S_start.args a) (mem (S_start.R a) S_start.n) (endD Tryz.prog S_start a))
end
end Go.Proofs.YtdjnipabfbblnaaGreatDoor
end

/- The dice game: its rules out of its text, its first position are what is told of them. -/
section
set_option maxRecDepth 100000
set_option linter.constructorNameAsVariable false
namespace Go.Proofs.YtdjnipabfbblnaaGreatDoor
open Go.Ev
set_option linter.unusedSectionVars false
variable [Go.Ev.Frozen Tryz.prog]
noncomputable section
def W_G_start_0 : OtO → Option AO := fun (x2 : OtO) => Option.some (AO.row [Value.iface (1000000007 : Nat) (Value.slice (Option.some (Addr.mk (Nat.add (Nat.succ ((13 : Nat) + (12 : Nat))) (0 : Nat)) (0 : Nat)
Option.none)) (2 : Nat) x2.1), Value.bool Bool.false, Value.int IntKind.i64 (0 : Int), Value.int IntKind.i64 (0 : Int), Value.int IntKind.i64 (0 : Int), Value.slice Option.none (0
: Nat) (0 : Nat), Value.int IntKind.i64 (0 : Int)] (96 : Nat) Md.own)
def W_G_start_1 : Option AO := Option.some (AO.row [Value.slice Option.none (0 : Nat) (0 : Nat), Value.bool Bool.true, Value.int IntKind.i64 (0 : Int), Value.int IntKind.i64 (0 : Int), Value.int IntKind.i64 (0 :
Int), Value.slice Option.none (0 : Nat) (0 : Nat), Value.int IntKind.i64 (0 : Int)] (96 : Nat) Md.own)
end
abbrev QYrsP_1 (a0 : StG) (a1 : List Int) : Prop := Sli (Value.int IntKind.u8) 8 false (nat_lit 0) (nat_lit 2) (nat_lit 2) ([Value.iface 1000000007 (Value.int IntKind.u8 a0.1.1),
 Value.iface 1000000007 (Value.int IntKind.u8 a0.1.2), Value.iface 1000000007 (Value.int IntKind.u8 a0.1.3), Value.iface 1000000007 (Value.int IntKind.u8 a0.1.4), Value.iface
 1000000007 (Value.int IntKind.u8 a0.1.5), Value.iface 1000000007 (Value.int IntKind.u8 a0.1.6), Value.iface 1000000007 (Value.int IntKind.u8 a0.1.7), Value.iface 1000000007
 (Value.int IntKind.u8 a0.1.8)] ++ [Value.iface 1000000007 (Value.int IntKind.u8 a0.2.1), Value.iface 1000000007 (Value.int IntKind.u8 a0.2.2), Value.iface 1000000007 (Value.int
 IntKind.u8 a0.2.3), Value.iface 1000000007 (Value.int IntKind.u8 a0.2.4), Value.iface 1000000007 (Value.int IntKind.u8 a0.2.5), Value.iface 1000000007 (Value.int IntKind.u8
 a0.2.6), Value.iface 1000000007 (Value.int IntKind.u8 a0.2.7), Value.iface 1000000007 (Value.int IntKind.u8 a0.2.8)]) a1
abbrev QYrsP_2 (a0 : StG) : Prop := ((false = false ∧ nat_lit 0 = 0 ∧ nat_lit 2 = 2 ∧ nat_lit 2 = 2) ∧ True) ∧ (True ∧ FlatL ([Value.iface 1000000007 (Value.int IntKind.u8 a0.1.1),
 Value.iface 1000000007 (Value.int IntKind.u8 a0.1.2), Value.iface 1000000007 (Value.int IntKind.u8 a0.1.3), Value.iface 1000000007 (Value.int IntKind.u8 a0.1.4), Value.iface
 1000000007 (Value.int IntKind.u8 a0.1.5), Value.iface 1000000007 (Value.int IntKind.u8 a0.1.6), Value.iface 1000000007 (Value.int IntKind.u8 a0.1.7), Value.iface 1000000007
 (Value.int IntKind.u8 a0.1.8)] ++ [Value.iface 1000000007 (Value.int IntKind.u8 a0.2.1), Value.iface 1000000007 (Value.int IntKind.u8 a0.2.2), Value.iface 1000000007 (Value.int
 IntKind.u8 a0.2.3), Value.iface 1000000007 (Value.int IntKind.u8 a0.2.4), Value.iface 1000000007 (Value.int IntKind.u8 a0.2.5), Value.iface 1000000007 (Value.int IntKind.u8
 a0.2.6), Value.iface 1000000007 (Value.int IntKind.u8 a0.2.7), Value.iface 1000000007 (Value.int IntKind.u8 a0.2.8)]) ∧ [Value.iface 1000000007 (Value.int IntKind.u8 a0.1.1),
 Value.iface 1000000007 (Value.int IntKind.u8 a0.1.2), Value.iface 1000000007 (Value.int IntKind.u8 a0.1.3), Value.iface 1000000007 (Value.int IntKind.u8 a0.1.4), Value.iface
 1000000007 (Value.int IntKind.u8 a0.1.5), Value.iface 1000000007 (Value.int IntKind.u8 a0.1.6), Value.iface 1000000007 (Value.int IntKind.u8 a0.1.7), Value.iface 1000000007
 (Value.int IntKind.u8 a0.1.8)] ++ [Value.iface 1000000007 (Value.int IntKind.u8 a0.2.1), Value.iface 1000000007 (Value.int IntKind.u8 a0.2.2), Value.iface 1000000007 (Value.int
 IntKind.u8 a0.2.3), Value.iface 1000000007 (Value.int IntKind.u8 a0.2.4), Value.iface 1000000007 (Value.int IntKind.u8 a0.2.5), Value.iface 1000000007 (Value.int IntKind.u8
 a0.2.6), Value.iface 1000000007 (Value.int IntKind.u8 a0.2.7), Value.iface 1000000007 (Value.int IntKind.u8 a0.2.8)] = [Value.iface 1000000007 (Value.int IntKind.u8 a0.1.1),
 Value.iface 1000000007 (Value.int IntKind.u8 a0.1.2), Value.iface 1000000007 (Value.int IntKind.u8 a0.1.3), Value.iface 1000000007 (Value.int IntKind.u8 a0.1.4), Value.iface
 1000000007 (Value.int IntKind.u8 a0.1.5), Value.iface 1000000007 (Value.int IntKind.u8 a0.1.6), Value.iface 1000000007 (Value.int IntKind.u8 a0.1.7), Value.iface 1000000007
 (Value.int IntKind.u8 a0.1.8)] ++ [Value.iface 1000000007 (Value.int IntKind.u8 a0.2.1), Value.iface 1000000007 (Value.int IntKind.u8 a0.2.2), Value.iface 1000000007 (Value.int
 IntKind.u8 a0.2.3), Value.iface 1000000007 (Value.int IntKind.u8 a0.2.4), Value.iface 1000000007 (Value.int IntKind.u8 a0.2.5), Value.iface 1000000007 (Value.int IntKind.u8
 a0.2.6), Value.iface 1000000007 (Value.int IntKind.u8 a0.2.7), Value.iface 1000000007 (Value.int IntKind.u8 a0.2.8)]) ∧ True
abbrev QYrsP_3 (a0 : PA) (a1 : StG) : Prop := ∃ (b0 : PX), PH a0 b0 ∧ PsX.mk b0 a0.4 a0.5 a0.6 a0.7 a0.8 = PsX.mk (PX.mk [(0 : Int), (0 : Int)] [false, false] ([a1.1.1, a1.1.2,
 a1.1.3, a1.1.4, a1.1.5, a1.1.6, a1.1.7, a1.1.8] ++ [a1.2.1, a1.2.2, a1.2.3, a1.2.4, a1.2.5, a1.2.6, a1.2.7, a1.2.8])) (0 : Int) (0 : Int) (0 : Int) (0 : Int) (0 : Int)
abbrev QYrsP_4 : Prop := (false = false ∧ 0 = 0 ∧ 1 = 1 ∧ 1 = 1) ∧ (false = false ∧ 0 = 0 ∧ 9 = 9 ∧ 9 = 9) ∧ (false = false ∧ 0 = 0 ∧ 6 = 6 ∧ 6 = 6) ∧ (false = false ∧ 0 = 0 ∧ 4 =
 4 ∧ 4 = 4) ∧ (false = false ∧ 0 = 0 ∧ 7 = 7 ∧ 7 = 7) ∧ (8 : Int) = 8 ∧ (16 : Int) = 16 ∧ (16 : Int) = 16 ∧ (12 : Int) = 12 ∧ (15 : Int) = 15 ∧ True
abbrev QYrsP_5 (a0 : PA) (a1 : Nat) : Prop := (a0.2.1 = false ∧ a0.2.2 = 0 ∧ a0.2.3 = 2 ∧ a0.2.4 = 2) ∧ (a0.3.1 = false ∧ a0.3.2 = 0 ∧ a0.3.3 = nat_lit 2 ∧ a0.3.4 = a1) ∧ a0.4 = 0
 ∧ a0.5 = 0 ∧ a0.6 = 0 ∧ a0.7 = 0 ∧ a0.8 = 0 ∧ True
theorem vc_parse (a : Unit) : G_parse a = (∃ (_ : Unit), True ∧ (0 = 0 ∧ (0 : Int) = 0 ∧ True) ∧ (True ∧ True ∧ (0 = 0 ∧ 2 = 2 ∧ 2 = 2) ∧ True ∧ True ∧ True ∧ True ∧ True ∧ True ∧ True ∧ True ∧ 0 = 0 ∧ True ∧ (false =
false ∧ 0 = 0 ∧ 2 = 2 ∧ 2 = 2) ∧ True) ∧ (True ∧ FlatL sD ∧ sD = [Value.int IntKind.i64 (1 : Int), Value.int IntKind.i64 (1 : Int)]) ∧ (True ∧ FlatL cD ∧ cD = [Value.int
IntKind.i32 (0 : Int), Value.int IntKind.i32 (1 : Int), Value.int IntKind.i32 (0 : Int), Value.int IntKind.i32 (9 : Int)]) ∧ (True ∧ (2 : Int) = 2 ∧ (2 : Int) = 2 ∧ (false = false
∧ 0 = 0 ∧ 2 = 2 ∧ 2 = 2) ∧ (true = true ∧ 0 = 0 ∧ 0 = 0) ∧ QYrsP_4) ∧ (True ∧ FlatL fD ∧ fD = [Value.int IntKind.i32 (0 : Int), Value.int IntKind.i32 (0 : Int)]) ∧ (FlatL [] ∧
True) ∧ (True ∧ FlatL w0D ∧ w0D = [Value.int IntKind.i64 (0 : Int), Value.int IntKind.i64 (0 : Int), Value.int IntKind.i64 (0 : Int), Value.int IntKind.i64 (0 : Int)]) ∧ (True ∧
FlatL w1D ∧ w1D = [Value.int IntKind.i64 (2 : Int), Value.int IntKind.i64 (35 : Int), Value.int IntKind.i64 (0 : Int), Value.int IntKind.i64 (0 : Int), Value.int IntKind.i64 (20 :
Int), Value.int IntKind.i64 (5 : Int), Value.int IntKind.i64 (35 : Int), Value.int IntKind.i64 (0 : Int), Value.int IntKind.i64 (1 : Int), Value.int IntKind.i64 (6 : Int),
Value.int IntKind.i64 (-1 : Int), Value.int IntKind.i64 (0 : Int), Value.int IntKind.i64 (0 : Int), Value.int IntKind.i64 (0 : Int), Value.int IntKind.i64 (0 : Int), Value.int
IntKind.i64 (0 : Int), Value.int IntKind.i64 (19 : Int), Value.int IntKind.i64 (8 : Int), Value.int IntKind.i64 (0 : Int), Value.int IntKind.i64 (0 : Int), Value.int IntKind.i64 (1
: Int), Value.int IntKind.i64 (35 : Int), Value.int IntKind.i64 (0 : Int), Value.int IntKind.i64 (0 : Int), Value.int IntKind.i64 (2 : Int), Value.int IntKind.i64 (6 : Int),
Value.int IntKind.i64 (35 : Int), Value.int IntKind.i64 (0 : Int), Value.int IntKind.i64 (0 : Int), Value.int IntKind.i64 (0 : Int), Value.int IntKind.i64 (0 : Int), Value.int
IntKind.i64 (0 : Int), Value.int IntKind.i64 (0 : Int), Value.int IntKind.i64 (0 : Int), Value.int IntKind.i64 (0 : Int), Value.int IntKind.i64 (0 : Int)]) ∧ (True ∧ FlatL w2D ∧
w2D = [Value.int IntKind.i64 (1 : Int), Value.int IntKind.i64 (35 : Int), Value.int IntKind.i64 (1 : Int), Value.int IntKind.i64 (0 : Int), Value.int IntKind.i64 (17 : Int),
Value.int IntKind.i64 (35 : Int), Value.int IntKind.i64 (0 : Int), Value.int IntKind.i64 (1 : Int), Value.int IntKind.i64 (2 : Int), Value.int IntKind.i64 (0 : Int), Value.int
IntKind.i64 (35 : Int), Value.int IntKind.i64 (0 : Int), Value.int IntKind.i64 (1 : Int), Value.int IntKind.i64 (7 : Int), Value.int IntKind.i64 (1 : Int), Value.int IntKind.i64 (0
: Int), Value.int IntKind.i64 (1 : Int), Value.int IntKind.i64 (8 : Int), Value.int IntKind.i64 (6 : Int), Value.int IntKind.i64 (0 : Int), Value.int IntKind.i64 (0 : Int),
Value.int IntKind.i64 (0 : Int), Value.int IntKind.i64 (0 : Int), Value.int IntKind.i64 (0 : Int)]) ∧ (True ∧ FlatL w3D ∧ w3D = [Value.int IntKind.i64 (1 : Int), Value.int
IntKind.i64 (35 : Int), Value.int IntKind.i64 (1 : Int), Value.int IntKind.i64 (0 : Int), Value.int IntKind.i64 (17 : Int), Value.int IntKind.i64 (35 : Int), Value.int IntKind.i64
(0 : Int), Value.int IntKind.i64 (1 : Int), Value.int IntKind.i64 (2 : Int), Value.int IntKind.i64 (0 : Int), Value.int IntKind.i64 (35 : Int), Value.int IntKind.i64 (0 : Int),
Value.int IntKind.i64 (0 : Int), Value.int IntKind.i64 (0 : Int), Value.int IntKind.i64 (0 : Int), Value.int IntKind.i64 (0 : Int)]) ∧ (True ∧ FlatL w4D ∧ w4D = [Value.int
IntKind.i64 (2 : Int), Value.int IntKind.i64 (35 : Int), Value.int IntKind.i64 (1 : Int), Value.int IntKind.i64 (0 : Int), Value.int IntKind.i64 (1 : Int), Value.int IntKind.i64
(36 : Int), Value.int IntKind.i64 (2 : Int), Value.int IntKind.i64 (0 : Int), Value.int IntKind.i64 (7 : Int), Value.int IntKind.i64 (35 : Int), Value.int IntKind.i64 (35 : Int),
Value.int IntKind.i64 (36 : Int), Value.int IntKind.i64 (18 : Int), Value.int IntKind.i64 (36 : Int), Value.int IntKind.i64 (35 : Int), Value.int IntKind.i64 (2 : Int), Value.int
IntKind.i64 (5 : Int), Value.int IntKind.i64 (35 : Int), Value.int IntKind.i64 (35 : Int), Value.int IntKind.i64 (36 : Int), Value.int IntKind.i64 (2 : Int), Value.int IntKind.i64
(9 : Int), Value.int IntKind.i64 (35 : Int), Value.int IntKind.i64 (0 : Int), Value.int IntKind.i64 (0 : Int), Value.int IntKind.i64 (0 : Int), Value.int IntKind.i64 (0 : Int),
Value.int IntKind.i64 (0 : Int)]) ∧ True) := by kernel_rfl
set_option maxHeartbeats 3200000 in
theorem vc_start (a : StG) : G_start a = ((True ∧ (cdP (CdA.mk (2 : Int) (2 : Int) (SA.mk false 0 2 2 fD) (SA.mk true 0 0 0 []) (SA.mk false 0 1 1 w0D) (SA.mk false 0 9 9 w1D) (SA.mk false 0 6 6 w2D) (SA.mk false 0 4 4
w3D) (SA.mk false 0 7 7 w4D) (8 : Int) (16 : Int) (16 : Int) (12 : Int) (15 : Int)) ∧ (2 : Int) = 2 ∧ (0 : Int) ≤ (8 : Int)) ∧ (∃ (x0 : List Int), Sli (Value.int IntKind.i32) 1
false 0 2 2 fD x0 ∧ W32 x0) ∧ (∃ (x1 : List Int), Sli (Value.int IntKind.i64) 4 false 0 1 1 w0D x1)) ∧ ((0 = 0 ∧ (0 : Int) = 0 ∧ (0 = 0 ∧ 0 = 0) ∧ (0 = 0 ∧ 0 = 0) ∧ True) ∧ (True ∧
(2 : Int) = 2 ∧ (2 : Int) = 2 ∧ (false = false ∧ 0 = 0 ∧ 2 = 2 ∧ 2 = 2) ∧ (true = true ∧ 0 = 0 ∧ 0 = 0 ∧ 0 = 0) ∧ QYrsP_4) ∧ ZF fD ∧ (True ∧ FlatL [] ∧ ([] : List Value) = []) ∧ ZF
w0D ∧ ZF w1D ∧ ZF w2D ∧ ZF w3D ∧ ZF w4D ∧ ZF cells4 ∧ True) ∧ (∀ (x2 : OtO), (2 : Int) ≤ (↑x2.1 : Int) ∧ (∀ (x3 x4 : List Int), Sli (Value.int IntKind.i32) 1 false 0 2 2 fD x3 →
Sli (Value.int IntKind.i64) 4 false 0 1 1 w0D x4 → (lastC x3 (List.replicate 49 (0 : Int)) x4 (8 : Int)).3 = (1 : Int) ∧ HE IntKind.i32 x2.2 (List.take 2 (lastC x3 (List.replicate
49 (0 : Int)) x4 (8 : Int)).2)) → (True ∧ (∃ (x5 : List Int), QYrsP_1 a x5) ∧ nat_lit 2 ≤ 1000) ∧ QYrsP_2 a ∧ (∀ (x6 : RW), (∀ (x7 : List Int), QYrsP_1 a x7 → Sli (Value.int
IntKind.u8) 8 false 0 (nat_lit 2) x6.1 x6.2 x7) → ((True ∧ True ∧ True) ∧ (W_G_start_0 x2 = W_G_start_0 x2 ∧ W_G_start_0 x2 = W_G_start_0 x2 ∧ True) ∧ True ∧ True ∧ (True ∧ True ∧
True) ∧ (True ∧ True) ∧ True ∧ True ∧ True ∧ True ∧ True) ∧ ∃ (x8 : PA), QYrsP_3 x8 a ∧ (((x8.1.1 = false ∧ x8.1.2 = 0 ∧ x8.1.3 = 2 ∧ x8.1.4 = x2.1) ∧ QYrsP_5 x8 x6.1) ∧ (0 : Int)
= 0 ∧ True) ∧ (True ∧ FlatL x8.1.5 ∧ x8.1.5 = x2.2) ∧ (True ∧ FlatL x8.2.5 ∧ x8.2.5 = [Value.bool false] ++ ([Value.bool false] ++ [])) ∧ (True ∧ FlatL x8.3.5 ∧ x8.3.5 = x6.2) ∧
True) ∧ True) ∧ (∀ (_ : Unit), (∀ (x11 x12 : List Int), Sli (Value.int IntKind.i32) 1 false 0 2 2 fD x11 → Sli (Value.int IntKind.i64) 4 false 0 1 1 w0D x12 → (lastC x11
(List.replicate 49 (0 : Int)) x12 (8 : Int)).3 = (2 : Int)) → (True ∧ (∃ (x13 : List Int), QYrsP_1 a x13) ∧ nat_lit 2 ≤ 1000) ∧ QYrsP_2 a ∧ (∀ (x14 : RW), (∀ (x15 : List Int),
QYrsP_1 a x15 → Sli (Value.int IntKind.u8) 8 false 0 (nat_lit 2) x14.1 x14.2 x15) → ((True ∧ True ∧ True) ∧ (W_G_start_1 = W_G_start_1 ∧ W_G_start_1 = W_G_start_1 ∧ True) ∧ True ∧
True ∧ (True ∧ True ∧ True) ∧ (True ∧ True) ∧ True ∧ True ∧ True ∧ True ∧ True) ∧ ∃ (x16 : PA), QYrsP_3 x16 a ∧ (((x16.1.1 = true ∧ x16.1.3 = 0 ∧ x16.1.4 = 0) ∧ QYrsP_5 x16 x14.1)
∧ (0 : Int) = 0 ∧ True) ∧ (FlatL x16.1.5 ∧ True) ∧ (True ∧ FlatL x16.2.5 ∧ x16.2.5 = [Value.bool false] ++ ([Value.bool false] ++ [])) ∧ (True ∧ FlatL x16.3.5 ∧ x16.3.5 = x14.2) ∧
True) ∧ True) ∧ (∀ (_ : Unit), (∀ (x19 x20 : List Int), Sli (Value.int IntKind.i32) 1 false 0 2 2 fD x19 → Sli (Value.int IntKind.i64) 4 false 0 1 1 w0D x20 → (lastC x19
(List.replicate 49 (0 : Int)) x20 (8 : Int)).3 ≠ (1 : Int) ∧ (lastC x19 (List.replicate 49 (0 : Int)) x20 (8 : Int)).3 ≠ (2 : Int)) → ∃ (x21 : PA), QYrsP_3 x21 a ∧ (((x21.1.1 =
true ∧ x21.1.3 = 0 ∧ x21.1.4 = 0) ∧ (x21.2.1 = true ∧ x21.2.3 = 0 ∧ x21.2.4 = 0) ∧ (x21.3.1 = true ∧ x21.3.3 = 0 ∧ x21.3.4 = 0) ∧ x21.4 = 0 ∧ x21.5 = 0 ∧ x21.6 = 0 ∧ x21.7 = 0 ∧
x21.8 = 0 ∧ True) ∧ (0 : Int) = 10 ∧ True) ∧ (FlatL x21.1.5 ∧ True) ∧ (FlatL x21.2.5 ∧ True) ∧ (FlatL x21.3.5 ∧ True) ∧ True) ∧ True) := by kernel_rfl
theorem cwMade_ok {c : CW} (h : CwOK Tryz.prog c) : CwOK Tryz.prog (cwMade c) := fun f args A K hk => by
  have hk : (Bool.rec (c f args A K) (cpo (hookCall hkB9 noCall f args A) fun p => K p.1 p.2) (Nat.beq f 12) : Prop) := hk
  cases hb : Nat.beq f 12 with
  | false => rw [hb] at hk; exact h f args A K hk
  | true => rw [hb] at hk; exact cw_call (hkB9_ok _ noCall_ok) f args A K hk
theorem g_parse (a : Unit) : G_parse a := by
  have q1 : FlatL sD := ghD.stakes.flat
  have q2 : FlatL cD := ghD.cells.flat
  have q3 : FlatL fD := ghD.first.flat
  have q4 : FlatL w0D := ghD.w0.flat
  have q5 : FlatL w1D := ghD.w1.flat
  have q6 : FlatL w2D := ghD.w2.flat
  have q7 : FlatL w3D := ghD.w3.flat
  have q8 : FlatL w4D := ghD.w4.flat
  have q9 := flatL_nil
  rw [vc_parse]
  refine ⟨(), ?_⟩
  repeat' first | with_reducible apply And.intro | exact trivial | with_reducible assumption | exact rfl
theorem s_parse : SpecOK Tryz.prog S_parse.spec := fun a => specD_cw (cwMade_ok cw0_ok) fun _ => g_parse a
theorem startH : (lastC XD.first (List.replicate 49 0) XD.w0 8).halt = 1 := by kernel_rfl
theorem startM : (lastC XD.first (List.replicate 49 0) XD.w0 8).mem = [0, 0] ++ List.replicate 49 0 := by kernel_rfl
theorem hw16 (d e : D8) : HW (Value.int .u8) (d.c ++ e.c) (d.l ++ e.l) := (hw8 d).append (hw8 e)
theorem hwFF : HW Value.bool ([.bool false] ++ ([.bool false] ++ [])) [false, false] := ⟨rfl, fun i x hx => by
  have hi : i < 2 := (List.getElem?_eq_some_iff.1 hx).1
  have : i = 0 ∨ i = 1 := by omega
  rcases this with h | h <;> subst h <;> (cases hx; exact .inl rfl)⟩
theorem g_start (a : StG) : GW (G_start a) := by
  have q1 : FlatL sD := ghD.stakes.flat
  have q2 : FlatL cD := ghD.cells.flat
  have q3 : FlatL fD := ghD.first.flat
  have q4 : FlatL w0D := ghD.w0.flat
  have q5 : FlatL w1D := ghD.w1.flat
  have q6 : FlatL w2D := ghD.w2.flat
  have q7 : FlatL w3D := ghD.w3.flat
  have q8 : FlatL w4D := ghD.w4.flat
  have q9 := flatL_nil
  have fo := opsFlat
  have h16 := hw16 a.d a.e
  have f16 := h16.flat
  have hT : Sli (Value.int .u8) 8 false 0 2 2 (a.d.c ++ a.e.c) (a.d.l ++ a.e.l) := Sli.row h16 rfl (Nat.le_refl _) f16
  have hW : W32 XD.first := by
    obtain ⟨X, hX, hW⟩ := gokD.x
    rw [GH.uniq hX ghD] at hW; exact hW
  have k8 : (0 : Int) ≤ 8 := by decide
  refine ⟨?_⟩
  rw [vc_start]
  refine ⟨⟨trivial, ⟨gokD.c, rfl, k8⟩, ⟨XD.first, ghD.first, hW⟩, XD.w0, ghD.w0⟩, by (repeat' first | with_reducible apply And.intro | exact trivial | with_reducible assumption | exact rfl), fun x2 h2 => ?_, fun _ h => ?_, fun _ h => ?_, trivial⟩
  · obtain ⟨r0, r2⟩ := h2
    obtain ⟨r1, r2⟩ := r2 _ _ ghD.first ghD.w0
    have r2 : HE .i32 x2.c ((lastC XD.first (List.replicate 49 0) XD.w0 8).mem.take 2) := r2
    rw [startM] at r2
    have r2 : HE .i32 x2.c [0, 0] := r2
    have f2 := r2.flat
    have r0 : (2 : Int) ≤ (x2.k : Int) := r0
    have hS : Sli (Value.int .i32) 1 false 0 2 x2.k x2.c [0, 0] := he_sli r2 rfl (by omega)
    refine ⟨⟨trivial, ⟨_, hT⟩, of_decide_eq_true rfl⟩, by (repeat' first | with_reducible apply And.intro | exact trivial | with_reducible assumption | exact rfl), fun x6 h6 => ?_, trivial⟩
    have h6 : Sli (Value.int .u8) 8 false 0 2 x6.k x6.c (a.d.l ++ a.e.l) := h6 _ hT
    have f6 := h6.flat
    have f7 := hwFF.flatB
    refine ⟨by (repeat' first | with_reducible apply And.intro | exact trivial | exact rfl), ⟨⟨false, 0, 2, x2.k, x2.c⟩, ⟨false, 0, 2, 2, [.bool false] ++ ([.bool false] ++ [])⟩, ⟨false, 0, 2, x6.k, x6.c⟩, 0, 0, 0, 0, 0⟩, ⟨⟨[0, 0], [false, false], a.d.l ++ a.e.l⟩, ⟨hS, Sli.row hwFF rfl (Nat.le_refl _) f7, h6⟩, rfl⟩, ?_⟩
    repeat' first | with_reducible apply And.intro | exact trivial | with_reducible assumption | exact rfl
  · have h := h _ _ ghD.first ghD.w0
    have h : (lastC XD.first (List.replicate 49 0) XD.w0 8).halt = 2 := h
    rw [startH] at h; exact absurd h (by decide)
  · have h := (h _ _ ghD.first ghD.w0).1
    have h : (lastC XD.first (List.replicate 49 0) XD.w0 8).halt ≠ 1 := h
    rw [startH] at h; exact absurd rfl h
theorem s_start : SpecOK Tryz.prog S_start.spec := fun a => specG_at (an := []) envOK (cwN_ok (fun _ h => cwP_ok s_run0 (cwD_ok s_cldig h)) 3) (fun _ => g_start a)
end Go.Proofs.YtdjnipabfbblnaaGreatDoor
end

/- The law of rolls (what is to be shown). -/
section
set_option maxRecDepth 100000
set_option linter.constructorNameAsVariable false
namespace Go.Proofs.YtdjnipabfbblnaaGreatDoor
open Go.Ev
-- keep xyOf isAt midR endR sR1 sRA sRB tips2 sD cD fD w0D w1D w2D w3D w4D XD startX cdP cdF gmF PH GH GOk PW Byts8 RollsEq doX silX silM goneX turnC checkX num foldI dnum frm oneC stirC rotC xorC addC takeC lastC rollZ rollOK inAll okPos lenOK Go.Ev.Sli Go.Ev.HV insAt argP rightP hasC farC stepC okAt twoC truthC W32 runC storeC manyC cells1 cells2 cells3 cells4 cells6 cells7 cells8 cells9 cells11
structure RL where
  a : Int
  b : Int
  q : Int
structure RS where
  x : D8
  y : D8
  p : PA
  e : Int
  u : Int
def tips2 (x y : D8) : List Int := (oneC x).l ++ (oneC y).l
def sR1 (x y : D8) : PsX := ⟨⟨[1, 0], [false, false], tips2 x y⟩, 1, 6, 0, 1, 0⟩
def sRA (x y : D8) : PsX := ⟨⟨[1, 0], [false, true], tips2 x y⟩, 1, 6, 0, 0, 0⟩
def sRB (x y : D8) (b : Int) : PsX := ⟨⟨[1, 0], [false, false], putTip (tips2 x y) 1 y.l⟩, 1, 6, 0, 0, b⟩
def isAt (p : PA) (s : PsX) : Prop := ∃ z, PH p z ∧ p.ps z = s
def xyOf (a : RL) (r : RS) : Prop := r.x = frm a.a ∧ r.y = frm a.b
def midR (a : RL) (r : RS) : Prop := (a.q % 3 = 1 ∧ isAt r.p (sRA r.x r.y) ∧ r.u = a.a) ∨ (a.q % 3 ≠ 1 ∧ isAt r.p (sRB r.x r.y a.b) ∧ r.u = IntKind.wrap .u64 (a.b + a.a))
def endR (r : RS) : Prop := ∃ g t, isAt r.p ⟨⟨[1, 1 + r.u % 6], g, t⟩, 0, 0, 0, 0, 0⟩ ∧ g.length = 2 ∧ t.length = 16
set_option linter.unusedSectionVars false
variable [Go.Ev.Frozen Tryz.prog]
noncomputable section
def S_known : SpecD where
  f := 22
  α := Unit
  args _ := []
  R _ := [(1, .f cells1 370 .ro), (2, .f cells2 375 .ro), (3, .f cells3 385 .ro), (4, .f cells4 404 .ro), (6, .f cells6 370 .ro), (7, .f cells7 415 .ro), (8, .f cells8 416 .ro), (9, .f cells9 432 .ro), (11, .f cells11 435 .ro)]
  n := 13
  pre _ := True
  outs := [⟨Unit, fun _ _ => True, fun _ _ => .bool true, fun _ _ => [], fun _ _ => 13, fun _ _ => []⟩]
  pick _ _ := 0
  find _ _ := some ((), [])
def S_rolls : SpecD where
  f := 4
  α := RL
  args a := [tgI .u64 a.a, tgI .u64 a.b, tgI .u8 a.q]
  R _ := [(1, .f cells1 370 .ro), (2, .f cells2 375 .ro), (3, .f cells3 385 .ro), (4, .f cells4 404 .ro), (6, .f cells6 370 .ro), (7, .f cells7 415 .ro), (8, .f cells8 416 .ro), (9, .f cells9 432 .ro), (11, .f cells11 435 .ro)]
  n := 13
  pre a := (0 ≤ a.a ∧ a.a < 18446744073709551616) ∧ (0 ≤ a.b ∧ a.b < 18446744073709551616) ∧ (0 ≤ a.q ∧ a.q < 256)
  outs := [⟨Unit, fun _ _ => True, fun _ _ => .bool true, fun _ _ => [], fun _ _ => 13, fun _ _ => []⟩]
  pick _ _ := 0
  find l _ := wI (lv l 0) fun a => wI (lv l 1) fun b => wI (lv l 2) fun q => some (⟨a, b, q⟩, [])
def S_doK : SpecD where
  f := 17
  α := DoA
  args := S_do.args
  R := S_do.R
  n := 13 + 15
  pre a := S_do.pre a ∧ ∀ x X gs, PH a.p x → GH a.g X → argsOf a.m.s gs → ∃ s, doX X (a.p.ps x) a.s ⟨a.m.t, gs, a.m.d⟩ = .ok s
  outs := [⟨PA, fun a b => ∀ x X gs, PH a.p x → GH a.g X → argsOf a.m.s gs → ∃ y, PH b y ∧ doX X (a.p.ps x) a.s ⟨a.m.t, gs, a.m.d⟩ = .ok (b.ps y), fun _ b => okP b (13 + 15), fun _ b => b.R (13 + 15) 50, fun _ _ => 13 + 18, fun v _ => paN (13 + 15) (agv (lv (agv v) 0))⟩]
  pick _ _ := 0
  find := S_do.find
def S_silK : SpecD where
  f := 20
  α := BhA
  args := S_sil.args
  R := S_sil.R
  n := 13 + 14
  pre a := S_sil.pre a ∧ ∀ x X, PH a.p x → GH a.g X → ∃ s, silX X (a.p.ps x) a.s = .ok s
  outs := [⟨PA, fun a b => ∀ x X, PH a.p x → GH a.g X → ∃ y, PH b y ∧ silX X (a.p.ps x) a.s = .ok (b.ps y), fun _ b => okP b (13 + 14), fun _ b => b.R (13 + 14) 50, fun _ _ => 13 + 17, fun v _ => paN (13 + 14) (agv (lv (agv v) 0))⟩]
  pick _ _ := 0
  find := S_sil.find
def isPl (args : List Value) : Bool := match lv (agv (lv args 3)) 0 with
  | .bool b => !b
  | _ => false
def cwT (S : SpecD) (cw : CW) : CW := fun f args A K => Bool.rec (cw f args A K) (callD Tryz.prog S (fun _ => True) args A K) (Nat.beq f S.f && isPl args)
def cwRolls : CW := cwN (fun c => cwD Tryz.prog S_parse (cwD Tryz.prog S_start (cwT S_doK (cwD Tryz.prog S_do (cwD Tryz.prog S_silK (cwD Tryz.prog S_turn (cwD Tryz.prog S_clone (cwD Tryz.prog S_gsame (cwD Tryz.prog S_hone (cwD Tryz.prog S_hnum (cwD Tryz.prog S_hfrom (cwD Tryz.prog S_known c)))))))))))) 12
def rpv (s : St) (t i : Nat) : Value := lv (rowO s.A (ptB (tv s t))) i
def rlR (r : RS) : List (Nat × PO) := gmL gD 13 ++ ((13 + 11, .p (.row r.x.c 50 .own)) :: (13 + 12, .p (.row r.y.c 50 .own)) ::
  (13 + 13, .p (.row (r.p.s1.v (13 + 14) :: r.p.s2.v (13 + 15) :: r.p.s3.v (13 + 16) :: rolls r.p) 29 .own)) :: (r.p.R (13 + 14) 50 ++ [(1, .f cells1 370 .ro), (2, .f cells2 375 .ro), (3, .f cells3 385 .ro), (4, .f cells4 404 .ro), (6, .f cells6 370 .ro), (7, .f cells7 415 .ro), (8, .f cells8 416 .ro), (9, .f cells9 432 .ro), (11, .f cells11 435 .ro)]))
def rlN (s : St) : List (Nat × Nat) := gmN s.A 13 (tv s 7) ++ (renP (13 + 11) (tv s 9) ++ (renP (13 + 12) (tv s 10) ++ (renP (13 + 13) (tv s 11) ++ (renS (13 + 14) (rpv s 11 0) ++ (renS (13 + 15) (rpv s 11 1) ++ renS (13 + 16) (rpv s 11 2))))))
def rlF (a : RL) : List (Nat × Value) := [(0, tgI .u64 a.a), (1, tgI .u64 a.b), (2, tgI .u8 a.q), (7, .pointer (some ⟨13, 0, none⟩)), (9, .pointer (some ⟨13 + 11, 0, none⟩)), (10, .pointer (some ⟨13 + 12, 0, none⟩)), (11, .pointer (some ⟨13 + 13, 0, none⟩))]
def jR9 (a : RL) : JA where
  β := RS
  at_ r := ⟨rlF a, rlR r, 13 + 17⟩
  J r := xyOf a r ∧ isAt r.p (sR1 r.x r.y)
  ren s := rlN s
def jR17 (a : RL) : JA where
  β := RS
  at_ r := ⟨rlF a ++ [(14, tgI .u64 r.u)], rlR r, 13 + 17⟩
  J r := (xyOf a r ∧ isAt r.p (sR1 r.x r.y)) ∧ r.u = IntKind.wrap .u64 (a.b + a.a) ∧ a.q % 3 ≠ 1
  ren s := rlN s
def jR18 (a : RL) : JA where
  β := RS
  at_ r := ⟨rlF a ++ [(8, tgI .i64 r.e), (14, tgI .u64 r.u)], rlR r, 13 + 17⟩
  J r := xyOf a r ∧ r.e = 0 ∧ midR a r
  ren s := rlN s
def jR20 (a : RL) : JA where
  β := RS
  at_ r := ⟨rlF a ++ [(14, tgI .u64 r.u)], rlR r, 13 + 17⟩
  J r := xyOf a r ∧ midR a r
  ren s := rlN s
def jR24 (a : RL) : JA where
  β := RS
  at_ r := ⟨rlF a ++ [(8, tgI .i64 r.e), (14, tgI .u64 r.u)], rlR r, 13 + 17⟩
  J r := r.e = 0 ∧ (0 ≤ r.u ∧ r.u < 18446744073709551616) ∧ endR r
  ren s := rlN s
def G_rolls (a : RL) : Prop := fnW Tryz.prog E0 cwRolls [some (joins [(9, jR9 a), (17, jR17 a), (18, jR18 a), (20, jR20 a), (24, jR24 a)])] S_rolls.f (S_rolls.args a) (mem (S_rolls.R a) S_rolls.n) (endD Tryz.prog S_rolls a)
end
end Go.Proofs.YtdjnipabfbblnaaGreatDoor
end

/- The law of rolls: what the dice game comes to, in plain data. -/
section
set_option maxRecDepth 100000
set_option linter.constructorNameAsVariable false
namespace Go.Proofs.YtdjnipabfbblnaaGreatDoor
open Go.Ev
set_option linter.unusedSectionVars false
variable [Go.Ev.Frozen Tryz.prog]
theorem frm_okZ (n : Int) : (frm n).Ok := by
  refine ⟨?_, ?_, ?_, ?_, ?_, ?_, ?_, ?_⟩ <;> (unfold frm byt; dsimp only; omega)
theorem oneC_ok (d : D8) : (oneC d).Ok := by unfold oneC; exact frm_okZ _
theorem checkD {v : Int} {g : List Bool} {t : List Int} {r0 r1 r2 r3 r4 : Int} {u : Int} (hg : g.length = 2) (ht : t.length = 16) (hu : 0 ≤ u ∧ u ≤ 1) (hv : 0 ≤ v ∧ v ≤ 9)
    (hr : (r0 = 0 ∧ r1 = 0 ∧ r2 = 0 ∧ r3 = 0 ∧ r4 = 0) ∨ ((0 ≤ r0 ∧ r0 < 2) ∧ (2 ≤ r1 ∧ r1 ≤ 1000) ∧ (0 ≤ r2 ∧ r2 < 2) ∧ (0 ≤ r3 ∧ r3 < 2) ∧ g.getD r3.toNat false = false)) : checkX XD ⟨⟨[u, v], g, t⟩, r0, r1, r2, r3, r4⟩ = 0 := by
  unfold checkX
  rw [if_pos ⟨rfl, hg, ht⟩, if_pos]
  refine ⟨fun i hi => ?_, ?_⟩
  · have hi : i < 2 := hi
    have : i = 0 ∨ i = 1 := by omega
    rcases this with h | h <;> subst h
    · exact ⟨hu.1, hu.2⟩
    · exact ⟨hv.1, hv.2⟩
  · rcases hr with h | h
    · exact .inl h
    · exact .inr ⟨⟨h.1.1, h.1.2⟩, h.2.1, ⟨h.2.2.1.1, h.2.2.1.2⟩, ⟨h.2.2.2.1.1, h.2.2.2.1.2⟩, h.2.2.2.2⟩
theorem turnR {v u : Int} {g : List Bool} {t : List Int} {r0 r1 r2 r3 r4 : Int} (hc : checkX XD ⟨⟨[u, v], g, t⟩, r0, r1, r2, r3, r4⟩ = 0) (hz : r1 ≠ 0) : turnX XD ⟨⟨[u, v], g, t⟩, r0, r1, r2, r3, r4⟩ = r3 := by
  unfold turnX
  rw [if_neg (not_not_intro hc), if_pos (fun q => hz q.2.1)]
theorem over_halt (v : Int) : (lastC [1, v] z49 XD.w1 XD.m1).halt = 1 := by kernel_rfl
theorem over_seat (v : Int) : (lastC [1, v] z49 XD.w1 XD.m1).mem.getD 6 0 = -1 := by kernel_rfl
theorem turn_over {v : Int} {g : List Bool} {t : List Int} (hc : checkX XD ⟨⟨[1, v], g, t⟩, 0, 0, 0, 0, 0⟩ = 0) : turnX XD ⟨⟨[1, v], g, t⟩, 0, 0, 0, 0, 0⟩ = -1 := by
  unfold turnX
  rw [if_neg (not_not_intro hc), if_neg (not_not_intro ⟨rfl, rfl, rfl, rfl, rfl⟩), if_pos (over_halt v)]
  show seatX XD _ ((lastC [1, v] z49 XD.w1 XD.m1).mem.getD 6 0) = -1
  rw [over_seat v]
  unfold seatX
  exact if_neg (fun q => absurd (show (0 : Int) ≤ -1 from q.1.1) (by decide))
theorem turn0_halt : (lastC [0, 0] z49 XD.w1 XD.m1).halt = 1 := by kernel_rfl
theorem turn0_seat : (lastC [0, 0] z49 XD.w1 XD.m1).mem.getD 6 0 = 0 := by kernel_rfl
theorem play_halt : (lastC [0, 0] (padX []) XD.w2 XD.m2).halt = 1 := by kernel_rfl
theorem play_vars : (lastC [0, 0] (padX []) XD.w2 XD.m2).mem.take 2 = [1, 0] := by kernel_rfl
theorem play_cell : (lastC [0, 0] (padX []) XD.w2 XD.m2).mem.getD 7 0 = 1 := by kernel_rfl
theorem play_side : (lastC [0, 0] (padX []) XD.w2 XD.m2).mem.getD 8 0 = 6 := by kernel_rfl
theorem do1 (x y : D8) : doX XD ⟨⟨[0, 0], [false, false], tips2 x y⟩, 0, 0, 0, 0, 0⟩ 0 ⟨false, [], ⟨0, 0, 0, 0, 0, 0, 0, 0⟩⟩ = .ok (sR1 x y) := by
  have hc := checkD (u := 0) (v := 0) (g := [false, false]) (t := tips2 x y) (r0 := 0) (r1 := 0) (r2 := 0) (r3 := 0) (r4 := 0) rfl rfl (by omega) (by omega) (.inl ⟨rfl, rfl, rfl, rfl, rfl⟩)
  have hz : zR ⟨⟨[0, 0], [false, false], tips2 x y⟩, 0, 0, 0, 0, 0⟩ := ⟨rfl, rfl, rfl, rfl, rfl⟩
  have ht : turnX XD ⟨⟨[0, 0], [false, false], tips2 x y⟩, 0, 0, 0, 0, 0⟩ = 0 := by
    unfold turnX
    rw [if_neg (not_not_intro hc), if_neg (not_not_intro hz), if_pos turn0_halt]
    show seatX XD _ ((lastC [0, 0] z49 XD.w1 XD.m1).mem.getD 6 0) = 0
    rw [turn0_seat]
    unfold seatX
    exact if_pos ⟨⟨by decide, by decide⟩, rfl⟩
  rw [do_rest hc (by rw [ht]; decide) ht]
  show (if false ≠ decide (¬ zR _) then _ else _) = _
  rw [decide_eq_false (not_not_intro hz), if_neg (not_not_intro rfl), if_pos hz]
  have hp : playX XD ⟨⟨[0, 0], [false, false], tips2 x y⟩, 0, 0, 0, 0, 0⟩ (0 : Int).toNat [] = some (sR1 x y) := by
    rw [playX_some ⟨rfl, rfl, fun i hi => absurd hi (Nat.not_lt_zero _), play_halt⟩]
    show some (rollX XD _ 0 (lastC [0, 0] (padX []) XD.w2 XD.m2)) = _
    unfold rollX
    show some (if (lastC [0, 0] (padX []) XD.w2 XD.m2).mem.getD 8 0 = 0 then _ else (⟨⟨(lastC [0, 0] (padX []) XD.w2 XD.m2).mem.take 2, _, _⟩, (lastC [0, 0] (padX []) XD.w2 XD.m2).mem.getD 7 0, (lastC [0, 0] (padX []) XD.w2 XD.m2).mem.getD 8 0, _, _, _⟩ : PsX)) = _
    rw [play_side, play_cell, play_vars, if_neg (by decide)]
    rfl
  rw [show MX.gs ⟨false, [], ⟨0, 0, 0, 0, 0, 0, 0, 0⟩⟩ = [] from rfl, hp]
  rfl
theorem chk_tip0 (x y : D8) : (tipX (sR1 x y) 1).l = (oneC y).l := rfl
theorem chkR1 (x y : D8) : checkX XD (sR1 x y) = 0 := checkD rfl rfl (by omega) (by omega) (.inr ⟨⟨by omega, by omega⟩, ⟨by omega, by omega⟩, ⟨by omega, by omega⟩, ⟨by omega, by omega⟩, rfl⟩)
theorem turnR1 (x y : D8) : turnX XD (sR1 x y) = 1 := turnR (chkR1 x y) (by decide)
theorem do2 (x y : D8) {b : Int} (hy : y = frm b) (h0 : 0 ≤ b) (h1 : b < 18446744073709551616) : doX XD (sR1 x y) 1 ⟨true, [], y⟩ = .ok (sRB x y b) := by
  have hz : ¬ zR (sR1 x y) := fun q => absurd (show (1 : Int) = 0 from q.1) (by decide)
  rw [do_rest (chkR1 x y) (by rw [turnR1]; decide) (turnR1 x y)]
  show (if true ≠ decide (¬ zR _) then _ else if zR _ then _ else if (oneC y).l ≠ (tipX (sR1 x y) 1).l then _ else _) = _
  rw [decide_eq_true hz, if_neg (not_not_intro rfl), if_neg hz, chk_tip0, if_neg (not_not_intro rfl)]
  have hd : IntKind.wrap .u64 (0 + dnum y.l) = b := by rw [hy, dnum_frm h0 h1, Int.zero_add, wrap_u64]; omega
  show Except.ok (passX XD (shownX (sR1 x y) 1 y) 1) = _
  unfold shownX
  show Except.ok (passX XD ⟨⟨[1, 0], [false, false], putTip (tips2 x y) 1 y.l⟩, 1, 6, 0, 1, IntKind.wrap .u64 (0 + dnum y.l)⟩ 1) = _
  rw [hd]
  rfl
theorem sil2_halt : (lastC [1, 0] (1 :: z48) XD.w3 XD.m3).halt = 1 := by kernel_rfl
theorem sil2_vars : (lastC [1, 0] (1 :: z48) XD.w3 XD.m3).mem.take 2 = [1, 0] := by kernel_rfl
theorem sil2 (x y : D8) : silX XD (sR1 x y) 1 = .ok (sRA x y) := by
  have hz : ¬ zR (sR1 x y) := fun q => absurd (show (1 : Int) = 0 from q.1) (by decide)
  rw [sil_rest (chkR1 x y) ⟨by decide, by decide⟩, if_neg (by rw [turnR1]; decide)]
  rw [if_neg (show ¬ ((sR1 x y).x.gone.getD (1 : Int).toNat false = true) from (show ¬ (false = true) from by decide))]
  rw [if_neg (not_not_intro (show (silM XD (sR1 x y) 1).halt = 1 from sil2_halt)), if_pos ⟨hz, rfl⟩]
  unfold goneX
  rw [show (silM XD (sR1 x y) 1).mem.take XD.nc = [1, 0] from sil2_vars]
  rfl
theorem sil2_no (x y : D8) : (silM XD (sR1 x y) 1).halt ≠ 2 := by rw [show (silM XD (sR1 x y) 1).halt = 1 from sil2_halt]; decide
theorem chkRA (x y : D8) : checkX XD (sRA x y) = 0 := checkD rfl rfl (by omega) (by omega) (.inr ⟨⟨by omega, by omega⟩, ⟨by omega, by omega⟩, ⟨by omega, by omega⟩, ⟨by omega, by omega⟩, rfl⟩)
theorem chkRB (x y : D8) (b : Int) : checkX XD (sRB x y b) = 0 := checkD rfl rfl (by omega) (by omega) (.inr ⟨⟨by omega, by omega⟩, ⟨by omega, by omega⟩, ⟨by omega, by omega⟩, ⟨by omega, by omega⟩, rfl⟩)
theorem turnRA (x y : D8) : turnX XD (sRA x y) = 0 := turnR (chkRA x y) (by decide)
theorem turnRB (x y : D8) (b : Int) : turnX XD (sRB x y b) = 0 := turnR (chkRB x y b) (by decide)
theorem sideE {X : GX} {s : PsX} {u : Int} (h : s.r4.tmod s.r1 = u % 6) (hu : 0 ≤ u) (h0 : X.cells.getD (2 * s.r0.toNat) 0 = 0) (h9 : X.cells.getD (2 * s.r0.toNat + 1) 0 = 9) : sideX X s = 1 + u % 6 := by
  unfold sideX
  rw [h, h0, h9]
  omega
theorem tm6 {u : Int} (hu : 0 ≤ u) : u.tmod 6 = u % 6 := Int.tmod_eq_emod_of_nonneg hu
theorem pass_end {g : List Bool} {t : List Int} {u : Int} (hu : 0 ≤ u) : passX XD ⟨⟨[1, 0], g, t⟩, 1, 6, 0, 0, u⟩ 0 = ⟨⟨[1, 1 + u % 6], g, t⟩, 0, 0, 0, 0, 0⟩ := by
  unfold passX
  have hp : pasX (PsX.mk ⟨[1, 0], g, t⟩ 1 6 0 0 u).x.gone XD.ns (PsX.mk ⟨[1, 0], g, t⟩ 1 6 0 0 u).r2.toNat 0 = none := rfl
  rw [hp]
  rw [sideE (X := XD) (s := ⟨⟨[1, 0], g, t⟩, 1, 6, 0, 0, u⟩) (u := u) (tm6 hu) hu rfl rfl]
  rfl
theorem do3 {g : List Bool} {t : List Int} {x : D8} {a r4 u : Int} (hc : checkX XD ⟨⟨[1, 0], g, t⟩, 1, 6, 0, 0, r4⟩ = 0) (ht : (tipX ⟨⟨[1, 0], g, t⟩, 1, 6, 0, 0, r4⟩ 0).l = (oneC x).l) (hx : x = frm a) (h0 : 0 ≤ a) (h1 : a < 18446744073709551616) (hu : u = IntKind.wrap .u64 (r4 + a)) :
    doX XD ⟨⟨[1, 0], g, t⟩, 1, 6, 0, 0, r4⟩ 0 ⟨true, [], x⟩ = .ok ⟨⟨[1, 1 + u % 6], g, putTip t 0 x.l⟩, 0, 0, 0, 0, 0⟩ := by
  have hz : ¬ zR ⟨⟨[1, 0], g, t⟩, 1, 6, 0, 0, r4⟩ := fun q => absurd (show (1 : Int) = 0 from q.1) (by decide)
  have hT : turnX XD ⟨⟨[1, 0], g, t⟩, 1, 6, 0, 0, r4⟩ = 0 := turnR hc (by decide)
  rw [do_rest hc (by rw [hT]; decide) hT]
  show (if true ≠ decide (¬ zR _) then _ else if zR _ then _ else if (oneC x).l ≠ (tipX _ 0).l then _ else _) = _
  rw [decide_eq_true hz, if_neg (not_not_intro rfl), if_neg hz, ht, if_neg (not_not_intro rfl)]
  have hd : IntKind.wrap .u64 (r4 + dnum x.l) = u := by rw [hx, dnum_frm h0 h1, hu]
  have hu0 : 0 ≤ u := by rw [hu, wrap_u64]; omega
  show Except.ok (passX XD (shownX _ 0 x) 0) = _
  unfold shownX
  show Except.ok (passX XD ⟨⟨[1, 0], g, putTip t 0 x.l⟩, 1, 6, 0, 0, IntKind.wrap .u64 (r4 + dnum x.l)⟩ 0) = _
  rw [hd, pass_end hu0]
theorem sil3_halt : (lastC [1, 0] (0 :: z48) XD.w3 XD.m3).halt = 1 := by kernel_rfl
theorem sil3_vars : (lastC [1, 0] (0 :: z48) XD.w3 XD.m3).mem.take 2 = [1, 0] := by kernel_rfl
theorem sil3 (x y : D8) {b : Int} (h0 : 0 ≤ b) : silX XD (sRB x y b) 0 = .ok ⟨⟨[1, 1 + b % 6], [true, false], putTip (tips2 x y) 1 y.l⟩, 0, 0, 0, 0, 0⟩ := by
  have hz : ¬ zR (sRB x y b) := fun q => absurd (show (1 : Int) = 0 from q.1) (by decide)
  rw [sil_rest (chkRB x y b) ⟨by decide, by decide⟩, if_neg (by rw [turnRB]; decide)]
  rw [if_neg (show ¬ ((sRB x y b).x.gone.getD (0 : Int).toNat false = true) from (show ¬ (false = true) from by decide))]
  rw [if_neg (not_not_intro (show (silM XD (sRB x y b) 0).halt = 1 from sil3_halt)), if_pos ⟨hz, rfl⟩]
  unfold goneX
  rw [show (silM XD (sRB x y b) 0).mem.take XD.nc = [1, 0] from sil3_vars]
  show Except.ok (passX XD ⟨⟨[1, 0], [true, false], putTip (tips2 x y) 1 y.l⟩, 1, 6, 0, 0, b⟩ 0) = _
  rw [pass_end h0]
theorem sil3_no (x y : D8) (b : Int) : (silM XD (sRB x y b) 0).halt ≠ 2 := by rw [show (silM XD (sRB x y b) 0).halt = 1 from sil3_halt]; decide
end Go.Proofs.YtdjnipabfbblnaaGreatDoor
end
