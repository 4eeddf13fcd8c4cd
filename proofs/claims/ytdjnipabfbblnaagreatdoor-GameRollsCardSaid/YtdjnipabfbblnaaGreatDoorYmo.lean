/- A program's code: Out (what is to be shown). -/
import Derived.Test.YtdjnipabfbblnaaGreatDoorYmr
import Derived.Test.YtdjnipabfbblnaaGreatDoorYnum
section
set_option maxRecDepth 100000
namespace Go.Proofs.YtdjnipabfbblnaaGreatDoor
open Go.Ev
-- keep cdP cdF num foldI dnum frm Go.Ev.Sli Go.Ev.HV insAt argP rightP hasC farC stepC okAt twoC truthC W32 runC storeC manyC cells4
structure OtA where
  c : CdA
  m : SA
  pc : Int
  halt : Int
structure OtO where
  k : Nat
  c : List Value
  p : Int
  q : Int
set_option linter.unusedSectionVars false
variable [Go.Ev.Frozen Tryz.prog]
noncomputable section
abbrev otP (a : OtA) : Prop := cdP a.c ∧ (a.m.l : Int) = a.c.cells + 49 ∧ ∃ xs, Sli (Value.int .i32) 1 false a.m.o a.m.l a.m.k a.m.c xs ∧ W32 xs
def otPick (v : Value) : Nat := match lv (agv v) 1 with
  | .int _ z => Int.rec (fun n => Nat.rec (match lv (agv (lv (agv v) 0)) 1 with
    | .bool b => Bool.rec 0 1 b
    | _ => 0) (fun _ _ => 2) n) (fun _ => 0) z
  | _ => 0
def S_out0 : SpecD where
  f := 87
  α := OtA
  args a := [.pointer (some ⟨13, 0, none⟩), .int .i64 0, .agg ⟨[tgI .i64 a.pc, tgS (13 + 8) a.m.o a.m.l a.m.k, tgI .i64 a.halt]⟩]
  R a := cdR a.c 13 ++ [(13 + 8, .f a.m.c 21 .gro)]
  n := 13 + 9
  pre a := otP a
  outs := [⟨OtO, fun a b => a.halt = 1 ∧ a.c.cells ≤ b.k ∧ ∀ xs, Sli (Value.int .i32) 1 false a.m.o a.m.l a.m.k a.m.c xs → HE .i32 b.c (xs.take a.c.cells.toNat), fun a b => .tuple ⟨[.agg ⟨[tgS (13 + 9) 0 a.c.cells.toNat b.k, .bool false, .int .i64 0, .int .i64 0, .int .i64 0, .slice none 0 0, .int .i64 0]⟩, .int .i64 0]⟩, fun _ b => [(13 + 9, .f b.c 21 (.grown b.k))], fun _ _ => 13 + 10, fun v _ => renS (13 + 9) (lv (agv (lv (agv v) 0)) 0)⟩,
    ⟨Unit, fun a _ => a.halt = 2, fun _ _ => .tuple ⟨[.agg ⟨[.slice none 0 0, .bool true, .int .i64 0, .int .i64 0, .int .i64 0, .slice none 0 0, .int .i64 0]⟩, .int .i64 0]⟩, fun _ _ => [], fun _ _ => 13 + 10, fun _ _ => []⟩,
    ⟨Unit, fun a _ => a.halt ≠ 1 ∧ a.halt ≠ 2, fun _ _ => .tuple ⟨[.agg ⟨[.slice none 0 0, .bool false, .int .i64 0, .int .i64 0, .int .i64 0, .slice none 0 0, .int .i64 0]⟩, .int .i64 10]⟩, fun _ _ => [], fun _ _ => 13 + 10, fun _ _ => []⟩]
  pick v _ := otPick v
  find l A := cdK A 13 (lv l 0) fun c q => wI (lv (agv (lv l 2)) 0) fun p => saK A (13 + 8) (lv (agv (lv l 2)) 1) fun m r => wI (lv (agv (lv l 2)) 2) fun h => some (⟨c, m, p, h⟩, q ++ r)
def G_out0 (a : OtA) : Prop := fnW Tryz.prog E0 (cwN (fun c => cwD Tryz.prog S_cwrd (cwD Tryz.prog S_clm c)) 3) [] S_out0.f (S_out0.args a) (mem (S_out0.R a) S_out0.n) (endD Tryz.prog S_out0 a)
def S_out1 : SpecD where
  f := 87
  α := OtA
  args a := [.pointer (some ⟨13, 0, none⟩), .int .i64 1, .agg ⟨[tgI .i64 a.pc, tgS (13 + 8) a.m.o a.m.l a.m.k, tgI .i64 a.halt]⟩]
  R a := cdR a.c 13 ++ [(13 + 8, .f a.m.c 21 .gro)]
  n := 13 + 9
  pre a := otP a
  outs := [⟨KI, fun a b => a.halt = 1 ∧ ∀ xs, Sli (Value.int .i32) 1 false a.m.o a.m.l a.m.k a.m.c xs → b.k = xs.getD (a.c.cells + 4).toNat 0, fun _ b => .tuple ⟨[.agg ⟨[.slice none 0 0, .bool false, tgI .i64 b.k, .int .i64 0, .int .i64 0, .slice none 0 0, .int .i64 0]⟩, .int .i64 0]⟩, fun _ _ => [], fun _ _ => 13 + 10, fun _ _ => []⟩,
    ⟨Unit, fun a _ => a.halt = 2, fun _ _ => .tuple ⟨[.agg ⟨[.slice none 0 0, .bool true, .int .i64 0, .int .i64 0, .int .i64 0, .slice none 0 0, .int .i64 0]⟩, .int .i64 0]⟩, fun _ _ => [], fun _ _ => 13 + 10, fun _ _ => []⟩,
    ⟨Unit, fun a _ => a.halt ≠ 1 ∧ a.halt ≠ 2, fun _ _ => .tuple ⟨[.agg ⟨[.slice none 0 0, .bool false, .int .i64 0, .int .i64 0, .int .i64 0, .slice none 0 0, .int .i64 0]⟩, .int .i64 10]⟩, fun _ _ => [], fun _ _ => 13 + 10, fun _ _ => []⟩]
  pick v _ := otPick v
  find l A := cdK A 13 (lv l 0) fun c q => wI (lv (agv (lv l 2)) 0) fun p => saK A (13 + 8) (lv (agv (lv l 2)) 1) fun m r => wI (lv (agv (lv l 2)) 2) fun h => some (⟨c, m, p, h⟩, q ++ r)
def G_out1 (a : OtA) : Prop := fnW Tryz.prog E0 (cwN (fun c => cwD Tryz.prog S_cwrd (cwD Tryz.prog S_clm c)) 3) [] S_out1.f (S_out1.args a) (mem (S_out1.R a) S_out1.n) (endD Tryz.prog S_out1 a)
def S_out2 : SpecD where
  f := 87
  α := OtA
  args a := [.pointer (some ⟨13, 0, none⟩), .int .i64 2, .agg ⟨[tgI .i64 a.pc, tgS (13 + 8) a.m.o a.m.l a.m.k, tgI .i64 a.halt]⟩]
  R a := cdR a.c 13 ++ [(13 + 8, .f a.m.c 21 .gro)]
  n := 13 + 9
  pre a := otP a
  outs := [⟨OtO, fun a b => a.halt = 1 ∧ a.c.cells ≤ b.k ∧ ∀ xs, Sli (Value.int .i32) 1 false a.m.o a.m.l a.m.k a.m.c xs → HE .i32 b.c (xs.take a.c.cells.toNat) ∧ b.p = xs.getD (a.c.cells + 5).toNat 0 ∧ b.q = xs.getD (a.c.cells + 6).toNat 0, fun a b => .tuple ⟨[.agg ⟨[tgS (13 + 9) 0 a.c.cells.toNat b.k, .bool false, .int .i64 0, tgI .i64 b.p, tgI .i64 b.q, .slice none 0 0, .int .i64 0]⟩, .int .i64 0]⟩, fun _ b => [(13 + 9, .f b.c 21 (.grown b.k))], fun _ _ => 13 + 10, fun v _ => renS (13 + 9) (lv (agv (lv (agv v) 0)) 0)⟩,
    ⟨Unit, fun a _ => a.halt = 2, fun _ _ => .tuple ⟨[.agg ⟨[.slice none 0 0, .bool true, .int .i64 0, .int .i64 0, .int .i64 0, .slice none 0 0, .int .i64 0]⟩, .int .i64 0]⟩, fun _ _ => [], fun _ _ => 13 + 10, fun _ _ => []⟩,
    ⟨Unit, fun a _ => a.halt ≠ 1 ∧ a.halt ≠ 2, fun _ _ => .tuple ⟨[.agg ⟨[.slice none 0 0, .bool false, .int .i64 0, .int .i64 0, .int .i64 0, .slice none 0 0, .int .i64 0]⟩, .int .i64 10]⟩, fun _ _ => [], fun _ _ => 13 + 10, fun _ _ => []⟩]
  pick v _ := otPick v
  find l A := cdK A 13 (lv l 0) fun c q => wI (lv (agv (lv l 2)) 0) fun p => saK A (13 + 8) (lv (agv (lv l 2)) 1) fun m r => wI (lv (agv (lv l 2)) 2) fun h => some (⟨c, m, p, h⟩, q ++ r)
def G_out2 (a : OtA) : Prop := fnW Tryz.prog E0 (cwN (fun c => cwD Tryz.prog S_cwrd (cwD Tryz.prog S_clm c)) 3) [] S_out2.f (S_out2.args a) (mem (S_out2.R a) S_out2.n) (endD Tryz.prog S_out2 a)
def S_out3 : SpecD where
  f := 87
  α := OtA
  args a := [.pointer (some ⟨13, 0, none⟩), .int .i64 3, .agg ⟨[tgI .i64 a.pc, tgS (13 + 8) a.m.o a.m.l a.m.k, tgI .i64 a.halt]⟩]
  R a := cdR a.c 13 ++ [(13 + 8, .f a.m.c 21 .gro)]
  n := 13 + 9
  pre a := otP a
  outs := [⟨OtO, fun a b => a.halt = 1 ∧ a.c.cells ≤ b.k ∧ ∀ xs, Sli (Value.int .i32) 1 false a.m.o a.m.l a.m.k a.m.c xs → HE .i32 b.c (xs.take a.c.cells.toNat), fun a b => .tuple ⟨[.agg ⟨[tgS (13 + 9) 0 a.c.cells.toNat b.k, .bool false, .int .i64 0, .int .i64 0, .int .i64 0, .slice none 0 0, .int .i64 0]⟩, .int .i64 0]⟩, fun _ b => [(13 + 9, .f b.c 21 (.grown b.k))], fun _ _ => 13 + 10, fun v _ => renS (13 + 9) (lv (agv (lv (agv v) 0)) 0)⟩,
    ⟨Unit, fun a _ => a.halt = 2, fun _ _ => .tuple ⟨[.agg ⟨[.slice none 0 0, .bool true, .int .i64 0, .int .i64 0, .int .i64 0, .slice none 0 0, .int .i64 0]⟩, .int .i64 0]⟩, fun _ _ => [], fun _ _ => 13 + 10, fun _ _ => []⟩,
    ⟨Unit, fun a _ => a.halt ≠ 1 ∧ a.halt ≠ 2, fun _ _ => .tuple ⟨[.agg ⟨[.slice none 0 0, .bool false, .int .i64 0, .int .i64 0, .int .i64 0, .slice none 0 0, .int .i64 0]⟩, .int .i64 10]⟩, fun _ _ => [], fun _ _ => 13 + 10, fun _ _ => []⟩]
  pick v _ := otPick v
  find l A := cdK A 13 (lv l 0) fun c q => wI (lv (agv (lv l 2)) 0) fun p => saK A (13 + 8) (lv (agv (lv l 2)) 1) fun m r => wI (lv (agv (lv l 2)) 2) fun h => some (⟨c, m, p, h⟩, q ++ r)
def G_out3 (a : OtA) : Prop := fnW Tryz.prog E0 (cwN (fun c => cwD Tryz.prog S_cwrd (cwD Tryz.prog S_clm c)) 3) [] S_out3.f (S_out3.args a) (mem (S_out3.R a) S_out3.n) (endD Tryz.prog S_out3 a)
end
end Go.Proofs.YtdjnipabfbblnaaGreatDoor
end

/- A program's code: Out is what is told of it. -/
section
set_option maxRecDepth 100000
namespace Go.Proofs.YtdjnipabfbblnaaGreatDoor
open Go.Ev
set_option linter.unusedSectionVars false
variable [Go.Ev.Frozen Tryz.prog]
noncomputable section
def W_G_out0_0 : OtA → Option AO := fun (a : OtA) => Option.some (AO.row (Array.toList (Array.mk [Value.iface (1000000007 : Nat) (Value.int IntKind.i64 a.3), Value.iface (1000000007 : Nat) (Value.slice (Option.some
(Addr.mk (21 : Nat) a.2.2 Option.none)) a.2.3 a.2.4), Value.iface (1000000007 : Nat) (Value.int IntKind.i64 a.4)])) (156 : Nat) Md.own)
def W_G_out0_1 : OtA → Option AO := fun (a : OtA) => Option.some (AO.row a.2.5 (21 : Nat) Md.gro)
def W_G_out1_0 : OtA → Option AO := fun (a : OtA) => Option.some (AO.row (Array.toList (Array.mk [Value.iface (1000000007 : Nat) (Value.int IntKind.i64 a.3), Value.iface (1000000007 : Nat) (Value.slice (Option.some
(Addr.mk (21 : Nat) a.2.2 Option.none)) a.2.3 a.2.4), Value.iface (1000000007 : Nat) (Value.int IntKind.i64 a.4)])) (156 : Nat) Md.own)
def W_G_out1_1 : OtA → Option AO := fun (a : OtA) => Option.some (AO.row a.2.5 (21 : Nat) Md.gro)
def W_G_out2_0 : OtA → Option AO := fun (a : OtA) => Option.some (AO.row (Array.toList (Array.mk [Value.iface (1000000007 : Nat) (Value.int IntKind.i64 a.3), Value.iface (1000000007 : Nat) (Value.slice (Option.some
(Addr.mk (21 : Nat) a.2.2 Option.none)) a.2.3 a.2.4), Value.iface (1000000007 : Nat) (Value.int IntKind.i64 a.4)])) (156 : Nat) Md.own)
def W_G_out2_1 : OtA → Option AO := fun (a : OtA) => Option.some (AO.row a.2.5 (21 : Nat) Md.gro)
def W_G_out3_0 : OtA → Option AO := fun (a : OtA) => Option.some (AO.row (Array.toList (Array.mk [Value.iface (1000000007 : Nat) (Value.int IntKind.i64 a.3), Value.iface (1000000007 : Nat) (Value.slice (Option.some
(Addr.mk (21 : Nat) a.2.2 Option.none)) a.2.3 a.2.4), Value.iface (1000000007 : Nat) (Value.int IntKind.i64 a.4)])) (156 : Nat) Md.own)
def W_G_out3_1 : OtA → Option AO := fun (a : OtA) => Option.some (AO.row a.2.5 (21 : Nat) Md.gro)
end
set_option maxHeartbeats 3200000 in
abbrev QYmoP_11 : Prop := (0 : Int) = 0 ∧ (0 : Int) = 0 ∧ (0 = 0 ∧ 0 = 0) ∧ (0 : Int) = 0 ∧ True
abbrev QYmoP_8 (a0 : Int) : Prop := a0 = 2 → ∃ (_ : Unit), a0 = 2 ∧ (((0 = 0 ∧ 0 = 0) ∧ true = true ∧ (0 : Int) = 0 ∧ QYmoP_11) ∧ (0 : Int) = 0 ∧ True) ∧ True
abbrev QYmoP_9 (a0 : OtA) : Prop := (0 ≤ a0.1.1 ∧ a0.1.1 ≤ (↑a0.2.3 : Int) ∧ (↑a0.2.3 : Int) ≤ (↑a0.2.4 : Int)) ∧ (true = true → (↑a0.2.3 : Int) ≤ (↑a0.2.3 : Int) ∧ (a0.1.1 = 0 ∨
 a0.1.1 < (↑a0.2.4 : Int)))
abbrev QYmoP_12 (a0 : Nat) (a1 : OtA) : Prop := (a0 = if SA.k (OtA.m a1) = Int.toNat (CdA.cells (OtA.c a1)) then a1.2.2 else a1.2.2 + Int.toNat a1.1.1 * 1)
abbrev QYmoP_10 : Prop := True ∧ True ∧ True ∧ True ∧ True ∧ True ∧ True ∧ True ∧ True
abbrev QYmoP_14 (a0 : OtA) : Prop := ((0 : Int) ≤ (0 : Int) ∧ 0 ≤ a0.1.1 ∧ a0.1.1 ≤ (↑a0.2.4 : Int)) ∧ (true = true → a0.1.1 ≤ (↑a0.2.3 : Int) ∧ ((0 : Int) = 0 ∨ (0 : Int) <
 (↑a0.2.4 : Int)))
abbrev QYmoP_1 (a0 : OtA) : Prop := QYmoP_8 a0.4 ∧ (¬(a0.4 = 2) → QYmoP_9 a0 ∧ ∀ (b0 b1 b2 : Nat), QYmoP_12 b0 a0 → b1 = Int.toNat (↑a0.2.3 : Int) - Int.toNat a0.1.1 → b2 = a0.2.4
 - Int.toNat a0.1.1 → QYmoP_10 ∧ QYmoP_14 a0 ∧ ∀ (b3 b4 b5 : Nat), (b3 = if SA.k (OtA.m a0) = Int.toNat (0 : Int) then a0.2.2 else a0.2.2 + 0) → b4 = Int.toNat a0.1.1 - 0 → b5 =
 a0.2.4 - 0 → (True ∧ (∃ (b6 : List Int), Sli (Value.int IntKind.i32) 1 false b3 b4 b5 a0.2.5 b6) ∧ 1 ≤ b4 ∧ b4 ≤ 256) ∧ (((false = false ∧ b3 = b3 ∧ b4 = b4 ∧ b5 = b5) ∧ True) ∧ ZF
 a0.2.5 ∧ True) ∧ (∀ (b6 : RW), b4 ≤ b6.1 ∧ (∀ (b7 : List Int), Sli (Value.int IntKind.i32) 1 false b3 b4 b5 a0.2.5 b7 → HE IntKind.i32 b6.2 b7) → (True ∧ True ∧ QYmoP_10) ∧ ∃ (b7 :
 OtO), (a0.4 = 1 ∧ a0.1.1 ≤ (↑b7.1 : Int) ∧ (∀ (b8 : List Int), Sli (Value.int IntKind.i32) 1 false a0.2.2 a0.2.3 a0.2.4 a0.2.5 b8 → HE IntKind.i32 b7.2 (List.take (Int.toNat
 a0.1.1) b8))) ∧ (((0 = 0 ∧ Int.toNat a0.1.1 = b4 ∧ b7.1 = b6.1) ∧ false = false ∧ (0 : Int) = 0 ∧ QYmoP_11) ∧ (0 : Int) = 0 ∧ True) ∧ (b7.1 = b6.1 ∧ FlatL b7.2 ∧ b7.2 = b6.2) ∧
 True) ∧ True)
abbrev QYmoP_13 (a0 : CdA) : Prop := True ∧ ((1 ≤ a0.1 ∧ a0.1 ≤ 200) ∧ 1 ≤ a0.2 ∧ a0.2 ≤ 8) ∧ cdF a0
abbrev QYmoP_5 (a0 : CdA) : Prop := (0 = 0 ∧ True) ∧ (True ∧ a0.1 = a0.1 ∧ a0.2 = a0.2 ∧ Z4 a0.3 ∧ Z4 a0.4 ∧ Z4 a0.5 ∧ Z4 a0.6 ∧ Z4 a0.7 ∧ Z4 a0.8 ∧ Z4 a0.9 ∧ a0.10 = a0.10 ∧ a0.11
 = a0.11 ∧ a0.12 = a0.12 ∧ a0.13 = a0.13 ∧ a0.14 = a0.14 ∧ True) ∧ ZF a0.3.5 ∧ ZF a0.4.5 ∧ ZF a0.5.5 ∧ ZF a0.6.5 ∧ ZF a0.7.5 ∧ ZF a0.8.5 ∧ ZF a0.9.5 ∧ True
abbrev QYmoP_15 (a0 : OtA) : Prop := (True ∧ True) ∧ (W_G_out2_0 a0 = W_G_out2_0 a0 ∧ True) ∧ (W_G_out2_1 a0 = W_G_out2_1 a0 ∧ True) ∧ True ∧ True ∧ True ∧ True ∧ True
abbrev QYmoP_4 (a0 : Int) : Prop := ∃ (_ : Unit), (a0 ≠ 1 ∧ a0 ≠ 2) ∧ (((0 = 0 ∧ 0 = 0) ∧ false = false ∧ (0 : Int) = 0 ∧ QYmoP_11) ∧ (10 : Int) = 10 ∧ True) ∧ True
abbrev QYmoP_2 (a0 : OtA) : Prop := ∀ (b0 : Int), b0 = (↑a0.2.3 : Int) → QYmoP_13 a0.1 ∧ QYmoP_5 a0.1 ∧ (∀ (_ : Unit), True → (b0 ≠ a0.1.1 + (49 : Int) → QYmoP_15 a0 ∧ QYmoP_4
 a0.4) ∧ (¬(b0 ≠ a0.1.1 + (49 : Int)) → QYmoP_15 a0 ∧ QYmoP_8 a0.4 ∧ (¬(a0.4 = 2) → QYmoP_9 a0 ∧ ∀ (b2 b3 b4 : Nat), QYmoP_12 b2 a0 → b3 = Int.toNat (↑a0.2.3 : Int) - Int.toNat
 a0.1.1 → b4 = a0.2.4 - Int.toNat a0.1.1 → QYmoP_10 ∧ ((0 : Int) ≤ (5 : Int) ∧ (5 : Int) < (↑b3 : Int)) ∧ ∀ (b5 : Nat), b5 = b2 + 5 → ∃ (b6 : Int), Rd a0.2.5 (Nat.add b5 0)
 (Value.int IntKind.i32 b6) ∧ ∀ (b7 : Int), b7 = IntKind.wrap .i64 b6 → ((0 : Int) ≤ (6 : Int) ∧ (6 : Int) < (↑b3 : Int)) ∧ ∀ (b8 : Nat), b8 = b2 + 6 → ∃ (b9 : Int), Rd a0.2.5
 (Nat.add b8 0) (Value.int IntKind.i32 b9) ∧ ∀ (b10 : Int), b10 = IntKind.wrap .i64 b9 → (True ∧ True ∧ True ∧ True ∧ (True ∧ True) ∧ (True ∧ True) ∧ (W_G_out2_1 a0 = W_G_out2_1 a0
 ∧ True) ∧ (True ∧ True) ∧ True ∧ True ∧ True ∧ True ∧ True) ∧ QYmoP_14 a0 ∧ ∀ (b11 b12 b13 : Nat), (b11 = if SA.k (OtA.m a0) = Int.toNat (0 : Int) then a0.2.2 else a0.2.2 + 0) →
 b12 = Int.toNat a0.1.1 - 0 → b13 = a0.2.4 - 0 → (True ∧ (∃ (b14 : List Int), Sli (Value.int IntKind.i32) 1 false b11 b12 b13 a0.2.5 b14) ∧ 1 ≤ b12 ∧ b12 ≤ 256) ∧ (((false = false ∧
 b11 = b11 ∧ b12 = b12 ∧ b13 = b13) ∧ True) ∧ ZF a0.2.5 ∧ True) ∧ (∀ (b14 : RW), b12 ≤ b14.1 ∧ (∀ (b15 : List Int), Sli (Value.int IntKind.i32) 1 false b11 b12 b13 a0.2.5 b15 → HE
 IntKind.i32 b14.2 b15) → (True ∧ True ∧ QYmoP_10) ∧ ∃ (b15 : OtO), (a0.4 = 1 ∧ a0.1.1 ≤ (↑b15.1 : Int) ∧ (∀ (b16 : List Int), Sli (Value.int IntKind.i32) 1 false a0.2.2 a0.2.3
 a0.2.4 a0.2.5 b16 → HE IntKind.i32 b15.2 (List.take (Int.toNat a0.1.1) b16) ∧ b15.3 = List.getD b16 (Int.toNat (a0.1.1 + (5 : Int))) (0 : Int) ∧ b15.4 = List.getD b16 (Int.toNat
 (a0.1.1 + (6 : Int))) (0 : Int))) ∧ (((0 = 0 ∧ Int.toNat a0.1.1 = b12 ∧ b15.1 = b14.1) ∧ false = false ∧ (0 : Int) = 0 ∧ b15.3 = b7 ∧ b15.4 = b10 ∧ (0 = 0 ∧ 0 = 0) ∧ (0 : Int) = 0
 ∧ True) ∧ (0 : Int) = 0 ∧ True) ∧ (b15.1 = b14.1 ∧ FlatL b15.2 ∧ b15.2 = b14.2) ∧ True) ∧ True))) ∧ True
abbrev QYmoP_16 (a0 : OtA) : Prop := (True ∧ True) ∧ (W_G_out1_0 a0 = W_G_out1_0 a0 ∧ True) ∧ (W_G_out1_1 a0 = W_G_out1_1 a0 ∧ True) ∧ True ∧ True ∧ True ∧ True ∧ True
abbrev QYmoP_3 (a0 : OtA) : Prop := ∀ (b0 : Int), b0 = (↑a0.2.3 : Int) → QYmoP_13 a0.1 ∧ QYmoP_5 a0.1 ∧ (∀ (_ : Unit), True → (b0 ≠ a0.1.1 + (49 : Int) → QYmoP_16 a0 ∧ QYmoP_4
 a0.4) ∧ (¬(b0 ≠ a0.1.1 + (49 : Int)) → QYmoP_16 a0 ∧ QYmoP_8 a0.4 ∧ (¬(a0.4 = 2) → QYmoP_9 a0 ∧ ∀ (b2 b3 b4 : Nat), QYmoP_12 b2 a0 → b3 = Int.toNat (↑a0.2.3 : Int) - Int.toNat
 a0.1.1 → b4 = a0.2.4 - Int.toNat a0.1.1 → QYmoP_10 ∧ ((0 : Int) ≤ (4 : Int) ∧ (4 : Int) < (↑b3 : Int)) ∧ ∀ (b5 : Nat), b5 = b2 + 4 → ∃ (b6 : Int), Rd a0.2.5 (Nat.add b5 0)
 (Value.int IntKind.i32 b6) ∧ ∀ (b7 : Int), b7 = IntKind.wrap .i64 b6 → ∃ (b8 : KI), (a0.4 = 1 ∧ (∀ (b9 : List Int), Sli (Value.int IntKind.i32) 1 false a0.2.2 a0.2.3 a0.2.4 a0.2.5
 b9 → b8.1 = List.getD b9 (Int.toNat (a0.1.1 + (4 : Int))) (0 : Int))) ∧ (((0 = 0 ∧ 0 = 0) ∧ false = false ∧ b8.1 = b7 ∧ QYmoP_11) ∧ (0 : Int) = 0 ∧ True) ∧ True))) ∧ True
abbrev QYmoP_17 (a0 : OtA) : Prop := (True ∧ True) ∧ (W_G_out0_0 a0 = W_G_out0_0 a0 ∧ True) ∧ (W_G_out0_1 a0 = W_G_out0_1 a0 ∧ True) ∧ True ∧ True ∧ True ∧ True ∧ True
abbrev QYmoP_6 (a0 : OtA) : Prop := ∀ (b0 : Int), b0 = (↑a0.2.3 : Int) → QYmoP_13 a0.1 ∧ QYmoP_5 a0.1 ∧ (∀ (_ : Unit), True → (b0 ≠ a0.1.1 + (49 : Int) → QYmoP_17 a0 ∧ QYmoP_4
 a0.4) ∧ (¬(b0 ≠ a0.1.1 + (49 : Int)) → QYmoP_17 a0 ∧ QYmoP_1 a0)) ∧ True
abbrev QYmoP_18 (a0 : OtA) : Prop := (True ∧ True) ∧ (W_G_out3_0 a0 = W_G_out3_0 a0 ∧ True) ∧ (W_G_out3_1 a0 = W_G_out3_1 a0 ∧ True) ∧ True ∧ True ∧ True ∧ True ∧ True
abbrev QYmoP_7 (a0 : OtA) : Prop := ∀ (b0 : Int), b0 = (↑a0.2.3 : Int) → QYmoP_13 a0.1 ∧ QYmoP_5 a0.1 ∧ (∀ (_ : Unit), True → (b0 ≠ a0.1.1 + (49 : Int) → QYmoP_18 a0 ∧ QYmoP_4
 a0.4) ∧ (¬(b0 ≠ a0.1.1 + (49 : Int)) → QYmoP_18 a0 ∧ QYmoP_1 a0)) ∧ True
theorem vc_out0 (a : OtA) : G_out0 a = ((a.4 ≠ 1 → (a.4 ≠ 2 → QYmoP_4 a.4) ∧ (¬(a.4 ≠ 2) → QYmoP_6 a)) ∧ (¬(a.4 ≠ 1) → QYmoP_6 a)) := by kernel_rfl
theorem vc_out1 (a : OtA) : G_out1 a = ((a.4 ≠ 1 → (a.4 ≠ 2 → QYmoP_4 a.4) ∧ (¬(a.4 ≠ 2) → QYmoP_3 a)) ∧ (¬(a.4 ≠ 1) → QYmoP_3 a)) := by kernel_rfl
set_option maxHeartbeats 3200000 in
theorem vc_out2 (a : OtA) : G_out2 a = ((a.4 ≠ 1 → (a.4 ≠ 2 → QYmoP_4 a.4) ∧ (¬(a.4 ≠ 2) → QYmoP_2 a)) ∧ (¬(a.4 ≠ 1) → QYmoP_2 a)) := by kernel_rfl
set_option maxHeartbeats 3200000 in
theorem vc_out3 (a : OtA) : G_out3 a = ((a.4 ≠ 1 → (a.4 ≠ 2 → QYmoP_4 a.4) ∧ (¬(a.4 ≠ 2) → QYmoP_7 a)) ∧ (¬(a.4 ≠ 1) → QYmoP_7 a)) := by kernel_rfl
theorem sliSub {k : IntKind} {o l kk o' l' k' m n : Nat} {c : List Value} {xs : List Int} (h : Sli (Value.int k) 1 false o l kk c xs) (ho : o' = o + m) (hn : l' = n) (hm : m + n ≤ l) (hk : l' ≤ k') : Sli (Value.int k) 1 false o' l' k' c ((xs.drop m).take n) := by
  have hl := h.len
  have hf := h.fit rfl
  subst ho hn
  refine ⟨fun i x hx => ?_, by rw [List.length_take, List.length_drop]; omega, (fun h => nomatch h), (fun _ => by omega), hk, h.flat⟩
  rw [List.getElem?_take] at hx
  by_cases hi : i < l'
  · rw [if_pos hi, List.getElem?_drop] at hx
    rw [Nat.add_assoc]; exact h.at_ _ _ hx
  · rw [if_neg hi] at hx; cases hx
theorem g_out0 (a : OtA) (xs : List Int) (hc : cdP a.c) (hl : (a.m.l : Int) = a.c.cells + 49) (hx : Sli (Value.int .i32) 1 false a.m.o a.m.l a.m.k a.m.c xs) (hw : W32 xs) : G_out0 a := by
  have hc0 := hc
  have fm := hx.flat
  obtain ⟨⟨⟨hn0, hn1⟩, hs0, hs1⟩, hf⟩ := hc
  obtain ⟨f1, f2, f3, f4, f5, f6, f7⟩ := hf
  have a11 : a.1.1 = a.c.cells := rfl
  have a12 : a.1.2 = a.c.seats := rfl
  have a23 : a.2.3 = a.m.l := rfl
  have a24 : a.2.4 = a.m.k := rfl
  have a22 : a.2.2 = a.m.o := rfl
  have hk := hx.cap
  have XO : ∀ {x : Nat}, (x = if a.m.k = Int.toNat a.c.cells then a.m.o else a.m.o + Int.toNat a.c.cells * 1) → x = a.m.o + a.c.cells.toNat := fun h => by rw [h, if_neg (by omega)]; omega
  have RD : ∀ {x n : Nat} {j : Nat} {e : Int}, x = a.m.o + a.c.cells.toNat → n = x + j → j < 49 → (a.c.cells + e).toNat = a.c.cells.toNat + j → Rd a.m.c (Nat.add n 0) (.int .i32 (xs.getD (a.c.cells + e).toNat 0)) := fun h1 h2 h3 h4 => Sli.rdD hx (by omega) (by omega)
  have SM : ∀ {x : Int} {j : Nat}, x = IntKind.wrap .i64 (xs.getD j 0) → x = xs.getD j 0 := fun {x j} h => by have := getD32 hw j; rw [h, wrap_sm (by omega)]
  rw [vc_out0]
  refine ⟨fun h1 => ⟨fun h2 => ⟨(), ⟨h1, h2⟩, by repeat' first | with_reducible apply And.intro | exact trivial | exact rfl | assumption⟩, fun h2 x1 e1 => ⟨⟨trivial, hc0⟩, by repeat' first | with_reducible apply And.intro | exact trivial | exact rfl | assumption, fun _ _ => ⟨fun h => absurd (e1.trans hl) h, fun _ => ⟨by repeat' first | with_reducible apply And.intro | exact trivial | exact rfl | assumption, fun h4 => ⟨(), h4, by repeat' first | with_reducible apply And.intro | exact trivial | exact rfl | assumption⟩, fun h4 => absurd (Classical.not_not.1 h2) h4⟩⟩, trivial⟩⟩, fun h1 x1 e1 => ⟨⟨trivial, hc0⟩, by repeat' first | with_reducible apply And.intro | exact trivial | exact rfl | assumption, fun _ _ => ⟨fun h => absurd (e1.trans hl) h, fun _ => ⟨by repeat' first | with_reducible apply And.intro | exact trivial | exact rfl | assumption, fun h4 => ⟨(), h4, by repeat' first | with_reducible apply And.intro | exact trivial | exact rfl | assumption⟩, fun h4 => ?_⟩⟩, trivial⟩⟩
  have h41 := Classical.not_not.1 h1
  refine ⟨⟨⟨by omega, by omega, by omega⟩, fun _ => ⟨Int.le_refl _, Or.inr (by omega)⟩⟩, fun x5 x6 x7 e5 e6 e7 => ⟨by repeat' first | with_reducible apply And.intro | exact trivial | exact rfl | assumption, ?_⟩⟩
  refine ⟨⟨⟨by omega, by omega, by omega⟩, fun _ => ⟨by omega, Or.inl rfl⟩⟩, fun x9 x10 x11 e9 e10 e11 => ?_⟩
  have hs := sliSub (o' := x9) (l' := x10) (k' := x11) (m := 0) (n := a.c.cells.toNat) hx (by rw [e9]; split <;> omega) (by omega) (by omega) (by omega)
  rw [List.drop_zero] at hs
  have ex10 : a.c.cells.toNat = x10 := by omega
  refine ⟨⟨trivial, ⟨_, hs⟩, by omega, by omega⟩, by repeat' first | with_reducible apply And.intro | exact trivial | exact rfl | assumption, fun x13 h13 => ⟨by repeat' first | with_reducible apply And.intro | exact trivial | exact rfl | assumption, ?_⟩, trivial⟩
  have hq := h13.2 _ hs
  have fq := heFlat hq
  have hk := h13.1
  have x131 : x13.1 = x13.k := rfl
  exact ⟨⟨x13.k, x13.c, 0, 0⟩, ⟨h41, by show a.c.cells ≤ ((x13.k : Nat) : Int); omega, fun ys hy => by rw [Sli.uniqI hy hx]; exact hq⟩, by repeat' first | with_reducible apply And.intro | exact trivial | exact rfl | assumption⟩
theorem s_out0 : SpecOK Tryz.prog S_out0.spec := fun a K ⟨hc, hl, xs, hx, hw⟩ hq => specD_at (an := []) envOK (cwN_ok (fun _ h => cwD_ok s_cwrd (cwD_ok s_clm h)) 3) (fun _ => g_out0 a xs hc hl hx hw) K ⟨hc, hl, xs, hx, hw⟩ hq
theorem g_out1 (a : OtA) (xs : List Int) (hc : cdP a.c) (hl : (a.m.l : Int) = a.c.cells + 49) (hx : Sli (Value.int .i32) 1 false a.m.o a.m.l a.m.k a.m.c xs) (hw : W32 xs) : G_out1 a := by
  have hc0 := hc
  have fm := hx.flat
  obtain ⟨⟨⟨hn0, hn1⟩, hs0, hs1⟩, hf⟩ := hc
  obtain ⟨f1, f2, f3, f4, f5, f6, f7⟩ := hf
  have a11 : a.1.1 = a.c.cells := rfl
  have a12 : a.1.2 = a.c.seats := rfl
  have a23 : a.2.3 = a.m.l := rfl
  have a24 : a.2.4 = a.m.k := rfl
  have a22 : a.2.2 = a.m.o := rfl
  have hk := hx.cap
  have XO : ∀ {x : Nat}, (x = if a.m.k = Int.toNat a.c.cells then a.m.o else a.m.o + Int.toNat a.c.cells * 1) → x = a.m.o + a.c.cells.toNat := fun h => by rw [h, if_neg (by omega)]; omega
  have RD : ∀ {x n : Nat} {j : Nat} {e : Int}, x = a.m.o + a.c.cells.toNat → n = x + j → j < 49 → (a.c.cells + e).toNat = a.c.cells.toNat + j → Rd a.m.c (Nat.add n 0) (.int .i32 (xs.getD (a.c.cells + e).toNat 0)) := fun h1 h2 h3 h4 => Sli.rdD hx (by omega) (by omega)
  have SM : ∀ {x : Int} {j : Nat}, x = IntKind.wrap .i64 (xs.getD j 0) → x = xs.getD j 0 := fun {x j} h => by have := getD32 hw j; rw [h, wrap_sm (by omega)]
  rw [vc_out1]
  refine ⟨fun h1 => ⟨fun h2 => ⟨(), ⟨h1, h2⟩, by repeat' first | with_reducible apply And.intro | exact trivial | exact rfl | assumption⟩, fun h2 x1 e1 => ⟨⟨trivial, hc0⟩, by repeat' first | with_reducible apply And.intro | exact trivial | exact rfl | assumption, fun _ _ => ⟨fun h => absurd (e1.trans hl) h, fun _ => ⟨by repeat' first | with_reducible apply And.intro | exact trivial | exact rfl | assumption, fun h4 => ⟨(), h4, by repeat' first | with_reducible apply And.intro | exact trivial | exact rfl | assumption⟩, fun h4 => absurd (Classical.not_not.1 h2) h4⟩⟩, trivial⟩⟩, fun h1 x1 e1 => ⟨⟨trivial, hc0⟩, by repeat' first | with_reducible apply And.intro | exact trivial | exact rfl | assumption, fun _ _ => ⟨fun h => absurd (e1.trans hl) h, fun _ => ⟨by repeat' first | with_reducible apply And.intro | exact trivial | exact rfl | assumption, fun h4 => ⟨(), h4, by repeat' first | with_reducible apply And.intro | exact trivial | exact rfl | assumption⟩, fun h4 => ?_⟩⟩, trivial⟩⟩
  have h41 := Classical.not_not.1 h1
  refine ⟨⟨⟨by omega, by omega, by omega⟩, fun _ => ⟨Int.le_refl _, Or.inr (by omega)⟩⟩, fun x5 x6 x7 e5 e6 e7 => ⟨by repeat' first | with_reducible apply And.intro | exact trivial | exact rfl | assumption, ⟨by omega, by omega⟩, fun x8 e8 => ⟨xs.getD (a.c.cells + 4).toNat 0, RD (XO e5) e8 (by decide) (by omega), fun x10 e10 => ⟨⟨x10⟩, ⟨h41, fun ys hy => by rw [Sli.uniqI hy hx]; exact SM e10⟩, by repeat' first | with_reducible apply And.intro | exact trivial | exact rfl | assumption⟩⟩⟩⟩
theorem s_out1 : SpecOK Tryz.prog S_out1.spec := fun a K ⟨hc, hl, xs, hx, hw⟩ hq => specD_at (an := []) envOK (cwN_ok (fun _ h => cwD_ok s_cwrd (cwD_ok s_clm h)) 3) (fun _ => g_out1 a xs hc hl hx hw) K ⟨hc, hl, xs, hx, hw⟩ hq
theorem g_out2 (a : OtA) (xs : List Int) (hc : cdP a.c) (hl : (a.m.l : Int) = a.c.cells + 49) (hx : Sli (Value.int .i32) 1 false a.m.o a.m.l a.m.k a.m.c xs) (hw : W32 xs) : G_out2 a := by
  have hc0 := hc
  have fm := hx.flat
  obtain ⟨⟨⟨hn0, hn1⟩, hs0, hs1⟩, hf⟩ := hc
  obtain ⟨f1, f2, f3, f4, f5, f6, f7⟩ := hf
  have a11 : a.1.1 = a.c.cells := rfl
  have a12 : a.1.2 = a.c.seats := rfl
  have a23 : a.2.3 = a.m.l := rfl
  have a24 : a.2.4 = a.m.k := rfl
  have a22 : a.2.2 = a.m.o := rfl
  have hk := hx.cap
  have XO : ∀ {x : Nat}, (x = if a.m.k = Int.toNat a.c.cells then a.m.o else a.m.o + Int.toNat a.c.cells * 1) → x = a.m.o + a.c.cells.toNat := fun h => by rw [h, if_neg (by omega)]; omega
  have RD : ∀ {x n : Nat} {j : Nat} {e : Int}, x = a.m.o + a.c.cells.toNat → n = x + j → j < 49 → (a.c.cells + e).toNat = a.c.cells.toNat + j → Rd a.m.c (Nat.add n 0) (.int .i32 (xs.getD (a.c.cells + e).toNat 0)) := fun h1 h2 h3 h4 => Sli.rdD hx (by omega) (by omega)
  have SM : ∀ {x : Int} {j : Nat}, x = IntKind.wrap .i64 (xs.getD j 0) → x = xs.getD j 0 := fun {x j} h => by have := getD32 hw j; rw [h, wrap_sm (by omega)]
  rw [vc_out2]
  refine ⟨fun h1 => ⟨fun h2 => ⟨(), ⟨h1, h2⟩, by repeat' first | with_reducible apply And.intro | exact trivial | exact rfl | assumption⟩, fun h2 x1 e1 => ⟨⟨trivial, hc0⟩, by repeat' first | with_reducible apply And.intro | exact trivial | exact rfl | assumption, fun _ _ => ⟨fun h => absurd (e1.trans hl) h, fun _ => ⟨by repeat' first | with_reducible apply And.intro | exact trivial | exact rfl | assumption, fun h4 => ⟨(), h4, by repeat' first | with_reducible apply And.intro | exact trivial | exact rfl | assumption⟩, fun h4 => absurd (Classical.not_not.1 h2) h4⟩⟩, trivial⟩⟩, fun h1 x1 e1 => ⟨⟨trivial, hc0⟩, by repeat' first | with_reducible apply And.intro | exact trivial | exact rfl | assumption, fun _ _ => ⟨fun h => absurd (e1.trans hl) h, fun _ => ⟨by repeat' first | with_reducible apply And.intro | exact trivial | exact rfl | assumption, fun h4 => ⟨(), h4, by repeat' first | with_reducible apply And.intro | exact trivial | exact rfl | assumption⟩, fun h4 => ?_⟩⟩, trivial⟩⟩
  have h41 := Classical.not_not.1 h1
  refine ⟨⟨⟨by omega, by omega, by omega⟩, fun _ => ⟨Int.le_refl _, Or.inr (by omega)⟩⟩, fun x5 x6 x7 e5 e6 e7 => ⟨by repeat' first | with_reducible apply And.intro | exact trivial | exact rfl | assumption, ⟨by omega, by omega⟩, fun x8 e8 => ⟨xs.getD (a.c.cells + 5).toNat 0, RD (XO e5) e8 (by decide) (by omega), fun y10 f10 => ⟨⟨by omega, by omega⟩, fun y11 f11 => ⟨xs.getD (a.c.cells + 6).toNat 0, RD (XO e5) f11 (by decide) (by omega), fun y13 f13 => ⟨by repeat' first | with_reducible apply And.intro | exact trivial | exact rfl | assumption, ?_⟩⟩⟩⟩⟩⟩
  refine ⟨⟨⟨by omega, by omega, by omega⟩, fun _ => ⟨by omega, Or.inl rfl⟩⟩, fun x9 x10 x11 e9 e10 e11 => ?_⟩
  have hs := sliSub (o' := x9) (l' := x10) (k' := x11) (m := 0) (n := a.c.cells.toNat) hx (by rw [e9]; split <;> omega) (by omega) (by omega) (by omega)
  rw [List.drop_zero] at hs
  have ex10 : a.c.cells.toNat = x10 := by omega
  refine ⟨⟨trivial, ⟨_, hs⟩, by omega, by omega⟩, by repeat' first | with_reducible apply And.intro | exact trivial | exact rfl | assumption, fun x13 h13 => ⟨by repeat' first | with_reducible apply And.intro | exact trivial | exact rfl | assumption, ?_⟩, trivial⟩
  have hq := h13.2 _ hs
  have fq := heFlat hq
  have hk := h13.1
  have x131 : x13.1 = x13.k := rfl
  exact ⟨⟨x13.k, x13.c, y10, y13⟩, ⟨h41, by show a.c.cells ≤ ((x13.k : Nat) : Int); omega, fun ys hy => by rw [Sli.uniqI hy hx]; exact ⟨hq, SM f10, SM f13⟩⟩, by repeat' first | with_reducible apply And.intro | exact trivial | exact rfl | assumption⟩
theorem s_out2 : SpecOK Tryz.prog S_out2.spec := fun a K ⟨hc, hl, xs, hx, hw⟩ hq => specD_at (an := []) envOK (cwN_ok (fun _ h => cwD_ok s_cwrd (cwD_ok s_clm h)) 3) (fun _ => g_out2 a xs hc hl hx hw) K ⟨hc, hl, xs, hx, hw⟩ hq
theorem g_out3 (a : OtA) (xs : List Int) (hc : cdP a.c) (hl : (a.m.l : Int) = a.c.cells + 49) (hx : Sli (Value.int .i32) 1 false a.m.o a.m.l a.m.k a.m.c xs) (hw : W32 xs) : G_out3 a := by
  have hc0 := hc
  have fm := hx.flat
  obtain ⟨⟨⟨hn0, hn1⟩, hs0, hs1⟩, hf⟩ := hc
  obtain ⟨f1, f2, f3, f4, f5, f6, f7⟩ := hf
  have a11 : a.1.1 = a.c.cells := rfl
  have a12 : a.1.2 = a.c.seats := rfl
  have a23 : a.2.3 = a.m.l := rfl
  have a24 : a.2.4 = a.m.k := rfl
  have a22 : a.2.2 = a.m.o := rfl
  have hk := hx.cap
  have XO : ∀ {x : Nat}, (x = if a.m.k = Int.toNat a.c.cells then a.m.o else a.m.o + Int.toNat a.c.cells * 1) → x = a.m.o + a.c.cells.toNat := fun h => by rw [h, if_neg (by omega)]; omega
  have RD : ∀ {x n : Nat} {j : Nat} {e : Int}, x = a.m.o + a.c.cells.toNat → n = x + j → j < 49 → (a.c.cells + e).toNat = a.c.cells.toNat + j → Rd a.m.c (Nat.add n 0) (.int .i32 (xs.getD (a.c.cells + e).toNat 0)) := fun h1 h2 h3 h4 => Sli.rdD hx (by omega) (by omega)
  have SM : ∀ {x : Int} {j : Nat}, x = IntKind.wrap .i64 (xs.getD j 0) → x = xs.getD j 0 := fun {x j} h => by have := getD32 hw j; rw [h, wrap_sm (by omega)]
  rw [vc_out3]
  refine ⟨fun h1 => ⟨fun h2 => ⟨(), ⟨h1, h2⟩, by repeat' first | with_reducible apply And.intro | exact trivial | exact rfl | assumption⟩, fun h2 x1 e1 => ⟨⟨trivial, hc0⟩, by repeat' first | with_reducible apply And.intro | exact trivial | exact rfl | assumption, fun _ _ => ⟨fun h => absurd (e1.trans hl) h, fun _ => ⟨by repeat' first | with_reducible apply And.intro | exact trivial | exact rfl | assumption, fun h4 => ⟨(), h4, by repeat' first | with_reducible apply And.intro | exact trivial | exact rfl | assumption⟩, fun h4 => absurd (Classical.not_not.1 h2) h4⟩⟩, trivial⟩⟩, fun h1 x1 e1 => ⟨⟨trivial, hc0⟩, by repeat' first | with_reducible apply And.intro | exact trivial | exact rfl | assumption, fun _ _ => ⟨fun h => absurd (e1.trans hl) h, fun _ => ⟨by repeat' first | with_reducible apply And.intro | exact trivial | exact rfl | assumption, fun h4 => ⟨(), h4, by repeat' first | with_reducible apply And.intro | exact trivial | exact rfl | assumption⟩, fun h4 => ?_⟩⟩, trivial⟩⟩
  have h41 := Classical.not_not.1 h1
  refine ⟨⟨⟨by omega, by omega, by omega⟩, fun _ => ⟨Int.le_refl _, Or.inr (by omega)⟩⟩, fun x5 x6 x7 e5 e6 e7 => ⟨by repeat' first | with_reducible apply And.intro | exact trivial | exact rfl | assumption, ?_⟩⟩
  refine ⟨⟨⟨by omega, by omega, by omega⟩, fun _ => ⟨by omega, Or.inl rfl⟩⟩, fun x9 x10 x11 e9 e10 e11 => ?_⟩
  have hs := sliSub (o' := x9) (l' := x10) (k' := x11) (m := 0) (n := a.c.cells.toNat) hx (by rw [e9]; split <;> omega) (by omega) (by omega) (by omega)
  rw [List.drop_zero] at hs
  have ex10 : a.c.cells.toNat = x10 := by omega
  refine ⟨⟨trivial, ⟨_, hs⟩, by omega, by omega⟩, by repeat' first | with_reducible apply And.intro | exact trivial | exact rfl | assumption, fun x13 h13 => ⟨by repeat' first | with_reducible apply And.intro | exact trivial | exact rfl | assumption, ?_⟩, trivial⟩
  have hq := h13.2 _ hs
  have fq := heFlat hq
  have hk := h13.1
  have x131 : x13.1 = x13.k := rfl
  exact ⟨⟨x13.k, x13.c, 0, 0⟩, ⟨h41, by show a.c.cells ≤ ((x13.k : Nat) : Int); omega, fun ys hy => by rw [Sli.uniqI hy hx]; exact hq⟩, by repeat' first | with_reducible apply And.intro | exact trivial | exact rfl | assumption⟩
theorem s_out3 : SpecOK Tryz.prog S_out3.spec := fun a K ⟨hc, hl, xs, hx, hw⟩ hq => specD_at (an := []) envOK (cwN_ok (fun _ h => cwD_ok s_cwrd (cwD_ok s_clm h)) 3) (fun _ => g_out3 a xs hc hl hx hw) K ⟨hc, hl, xs, hx, hw⟩ hq
end Go.Proofs.YtdjnipabfbblnaaGreatDoor
end

/- A program's code: Run of turn and pay (what is to be shown). -/
section
set_option maxRecDepth 100000
namespace Go.Proofs.YtdjnipabfbblnaaGreatDoor
open Go.Ev
-- keep cdP cdF num foldI dnum frm lastC Go.Ev.Sli Go.Ev.HV insAt argP rightP hasC farC stepC okAt twoC truthC W32 runC storeC manyC cells4
def lastC (xs ws cs : List Int) (most : Int) : MS := runC cs ⟨0, xs ++ ws, 0⟩ (manyC most)
set_option linter.unusedSectionVars false
variable [Go.Ev.Frozen Tryz.prog]
noncomputable section
def ruPick (v : Value) : Nat := match lv (agv v) 1 with
  | .int _ z => Int.rec (fun n => Bool.rec (Bool.rec (match lv (agv (lv (agv v) 0)) 1 with
    | .bool b => Bool.rec 0 1 b
    | _ => 0) 3 (Nat.beq n 3)) 2 (Nat.beq n 10)) (fun _ => 0) z
  | _ => 0
def outE (e : Int) (b : Bool) : Value := .tuple ⟨[.agg ⟨[.slice none 0 0, .bool b, .int .i64 0, .int .i64 0, .int .i64 0, .slice none 0 0, .int .i64 0]⟩, .int .i64 e]⟩
abbrev z49 : List Int := List.replicate 49 0
def S_run1 : SpecD where
  f := 42
  α := FtA
  args a := [.pointer (some ⟨13, 0, none⟩), .int .i64 1, a.v.v (13 + 8), .slice none 0 0]
  R a := cdR a.c 13 ++ ((13 + 8, .f a.v.c 21 .gro) :: globM)
  n := 13 + 9
  pre a := cdP a.c ∧ 0 ≤ a.c.m1 ∧ (∃ xs, Sli (Value.int .i32) 1 a.v.n a.v.o a.v.l a.v.k a.v.c xs ∧ W32 xs) ∧ ∃ cs, Sli (Value.int .i64) 4 a.c.i1.n a.c.i1.o a.c.i1.l a.c.i1.k a.c.i1.c cs
  outs := [⟨KI, fun a b => (a.v.l : Int) = a.c.cells ∧ ∀ xs cs, Sli (Value.int .i32) 1 a.v.n a.v.o a.v.l a.v.k a.v.c xs → Sli (Value.int .i64) 4 a.c.i1.n a.c.i1.o a.c.i1.l a.c.i1.k a.c.i1.c cs →
      (lastC xs z49 cs a.c.m1).halt = 1 ∧ b.k = (lastC xs z49 cs a.c.m1).mem.getD (a.c.cells + 4).toNat 0,
      fun _ b => .tuple ⟨[.agg ⟨[.slice none 0 0, .bool false, tgI .i64 b.k, .int .i64 0, .int .i64 0, .slice none 0 0, .int .i64 0]⟩, .int .i64 0]⟩, fun _ _ => [], fun _ _ => 13 + 10, fun _ _ => []⟩,
    ⟨Unit, fun a _ => (a.v.l : Int) = a.c.cells ∧ ∀ xs cs, Sli (Value.int .i32) 1 a.v.n a.v.o a.v.l a.v.k a.v.c xs → Sli (Value.int .i64) 4 a.c.i1.n a.c.i1.o a.c.i1.l a.c.i1.k a.c.i1.c cs → (lastC xs z49 cs a.c.m1).halt = 2,
      fun _ _ => outE 0 true, fun _ _ => [], fun _ _ => 13 + 10, fun _ _ => []⟩,
    ⟨Unit, fun a _ => (a.v.l : Int) = a.c.cells ∧ ∀ xs cs, Sli (Value.int .i32) 1 a.v.n a.v.o a.v.l a.v.k a.v.c xs → Sli (Value.int .i64) 4 a.c.i1.n a.c.i1.o a.c.i1.l a.c.i1.k a.c.i1.c cs → (lastC xs z49 cs a.c.m1).halt ≠ 1 ∧ (lastC xs z49 cs a.c.m1).halt ≠ 2,
      fun _ _ => outE 10 false, fun _ _ => [], fun _ _ => 13 + 10, fun _ _ => []⟩,
    ⟨Unit, fun a _ => (a.v.l : Int) ≠ a.c.cells, fun _ _ => outE 3 false, fun _ _ => [], fun _ _ => 13 + 10, fun _ _ => []⟩]
  pick v _ := ruPick v
  find l A := cdK A 13 (lv l 0) fun c q => saK A (13 + 8) (lv l 2) fun v q2 => some (⟨c, v, ⟨true, 0, 0, 0, []⟩⟩, q ++ q2)
def G_run1 (a : FtA) : Prop := fnW Tryz.prog E0 (cwN (fun c => cwP 1 S_stat1 (cwP 1 S_out1 (cwD Tryz.prog S_mrun c))) 3) [] S_run1.f (S_run1.args a) (mem (S_run1.R a) S_run1.n) (endD Tryz.prog S_run1 a)
end
end Go.Proofs.YtdjnipabfbblnaaGreatDoor
end

/- A program's code: Run of turn is what is told of it. -/
section
set_option maxRecDepth 100000
namespace Go.Proofs.YtdjnipabfbblnaaGreatDoor
open Go.Ev
set_option linter.unusedSectionVars false
variable [Go.Ev.Frozen Tryz.prog]
abbrev QYmpP_1 : Prop := (0 : Int) = 0 ∧ (0 : Int) = 0 ∧ (0 = 0 ∧ 0 = 0) ∧ (0 : Int) = 0 ∧ True
abbrev QYmpP_2 (a0 : CdA) : Prop := True ∧ a0.1 = a0.1 ∧ a0.2 = a0.2 ∧ Z4 a0.3 ∧ Z4 a0.4 ∧ Z4 a0.5 ∧ Z4 a0.6 ∧ Z4 a0.7 ∧ Z4 a0.8 ∧ Z4 a0.9 ∧ a0.10 = a0.10 ∧ a0.11 = a0.11 ∧ a0.12 =
 a0.12 ∧ a0.13 = a0.13 ∧ a0.14 = a0.14 ∧ True
abbrev QYmpP_3 (a0 : SA) (a1 : List Int) : Prop := Sli (Value.int IntKind.i32) 1 a0.1 a0.2 a0.3 a0.4 a0.5 a1
abbrev QYmpP_4 (a0 : SA) (a1 : List Int) : Prop := Sli (Value.int IntKind.i64) 4 a0.1 a0.2 a0.3 a0.4 a0.5 a1
theorem vc_run1 (a : FtA) : G_run1 a = ((True ∧ cdP a.1 ∧ (∃ (x0 : List Int), QYmpP_3 a.2 x0)) ∧ ((0 = 0 ∧ (1 : Int) = 1 ∧ Z4 a.2 ∧ (0 = 0 ∧ 0 = 0) ∧ True) ∧ QYmpP_2 a.1 ∧ ZF a.1.3.5 ∧ ZF a.1.4.5 ∧ ZF a.1.5.5 ∧ ZF
a.1.6.5 ∧ ZF a.1.7.5 ∧ ZF a.1.8.5 ∧ ZF a.1.9.5 ∧ ZF a.2.5 ∧ True) ∧ (∀ (x1 : NwO), (↑a.2.3 : Int) = a.1.1 ∧ x1.1 = a.2.3 + 49 ∧ (∀ (x2 : List Int), QYmpP_3 a.2 x2 → HE IntKind.i32
x1.2 (x2 ++ List.replicate 49 (0 : Int))) → (True ∧ (∃ (x3 : List Int), Sli (Value.int IntKind.i32) 1 false (nat_lit 0) x1.1 x1.1 x1.2 x3 ∧ W32 x3) ∧ (1 ≤ x1.1 ∧ x1.1 ≤ 256) ∧ (∃
(x4 : List Int), QYmpP_4 a.1.6 x4) ∧ ((0 : Int) ≤ Int.ofNat 0 ∧ Int.ofNat 0 ≤ (2048 : Int)) ∧ ((0 : Int) ≤ Int.ofNat 0 ∧ Int.ofNat 0 ≤ (2 : Int)) ∧ 0 ≤ a.1.11) ∧ ((Z4 a.1.6 ∧
(Int.ofNat 0 = (0 : Int) ∧ (nat_lit 0 = 0 ∧ x1.1 = x1.1 ∧ x1.1 = x1.1) ∧ Int.ofNat 0 = (0 : Int) ∧ True) ∧ a.1.11 = a.1.11 ∧ True) ∧ ZF a.1.6.5 ∧ ZF x1.2 ∧ ZF cells4 ∧ True) ∧ (∀
(x5 : RnO), x1.1 ≤ x5.3 ∧ (∀ (x6 x7 : List Int), Sli (Value.int IntKind.i32) 1 false (nat_lit 0) x1.1 x1.1 x1.2 x6 → W32 x6 → QYmpP_4 a.1.6 x7 → HE IntKind.i32 x5.4 (runC x7 (MS.mk
(Int.ofNat 0) x6 (Int.ofNat 0)) (manyC a.1.11)).2 ∧ x5.1 = (runC x7 (MS.mk (Int.ofNat 0) x6 (Int.ofNat 0)) (manyC a.1.11)).1 ∧ x5.2 = (runC x7 (MS.mk (Int.ofNat 0) x6 (Int.ofNat
0)) (manyC a.1.11)).3) → (True ∧ True ∧ True ∧ True ∧ True ∧ True ∧ True ∧ True ∧ True ∧ True ∧ True ∧ True ∧ True ∧ True ∧ True ∧ True ∧ (True ∧ True) ∧ (True ∧ True) ∧ True ∧
True) ∧ (True ∧ cdP a.1 ∧ (↑x1.1 : Int) = a.1.1 + (49 : Int) ∧ (∃ (x8 : List Int), Sli (Value.int IntKind.i32) 1 false (nat_lit 0) x1.1 x5.3 x5.4 x8 ∧ W32 x8)) ∧ ((0 = 0 ∧ (1 :
Int) = 1 ∧ (x5.1 = x5.1 ∧ (nat_lit 0 = 0 ∧ x1.1 = x1.1 ∧ x5.3 = x5.3) ∧ x5.2 = x5.2 ∧ True) ∧ True) ∧ QYmpP_2 a.1 ∧ ZF a.1.3.5 ∧ ZF a.1.4.5 ∧ ZF a.1.5.5 ∧ ZF a.1.6.5 ∧ ZF a.1.7.5 ∧
ZF a.1.8.5 ∧ ZF a.1.9.5 ∧ ZF x5.4 ∧ True) ∧ (∀ (x9 : KI), x5.2 = 1 ∧ (∀ (x10 : List Int), Sli (Value.int IntKind.i32) 1 false (nat_lit 0) x1.1 x5.3 x5.4 x10 → x9.1 = List.getD x10
(Int.toNat (a.1.1 + (4 : Int))) (0 : Int)) → ∃ (x11 : KI), ((↑a.2.3 : Int) = a.1.1 ∧ (∀ (x12 x13 : List Int), QYmpP_3 a.2 x12 → QYmpP_4 a.1.6 x13 → (lastC x12 (List.replicate 49 (0
: Int)) x13 a.1.11).3 = (1 : Int) ∧ x11.1 = List.getD (lastC x12 (List.replicate 49 (0 : Int)) x13 a.1.11).2 (Int.toNat (a.1.1 + (4 : Int))) (0 : Int))) ∧ (((0 = 0 ∧ 0 = 0) ∧ false
= false ∧ x11.1 = x9.1 ∧ QYmpP_1) ∧ (0 : Int) = 0 ∧ True) ∧ True) ∧ (∀ (_ : Unit), x5.2 = 2 → ∃ (_ : Unit), ((↑a.2.3 : Int) = a.1.1 ∧ (∀ (x16 x17 : List Int), QYmpP_3 a.2 x16 →
QYmpP_4 a.1.6 x17 → (lastC x16 (List.replicate 49 (0 : Int)) x17 a.1.11).3 = (2 : Int))) ∧ (((0 = 0 ∧ 0 = 0) ∧ true = true ∧ (0 : Int) = 0 ∧ QYmpP_1) ∧ (0 : Int) = 0 ∧ True) ∧
True) ∧ (∀ (_ : Unit), x5.2 ≠ 1 ∧ x5.2 ≠ 2 → ∃ (_ : Unit), ((↑a.2.3 : Int) = a.1.1 ∧ (∀ (x20 x21 : List Int), QYmpP_3 a.2 x20 → QYmpP_4 a.1.6 x21 → (lastC x20 (List.replicate 49 (0
: Int)) x21 a.1.11).3 ≠ (1 : Int) ∧ (lastC x20 (List.replicate 49 (0 : Int)) x21 a.1.11).3 ≠ (2 : Int))) ∧ (((0 = 0 ∧ 0 = 0) ∧ false = false ∧ (0 : Int) = 0 ∧ QYmpP_1) ∧ (10 : Int)
= 10 ∧ True) ∧ True) ∧ True) ∧ True) ∧ (∀ (_ : Unit), ((↑a.2.3 : Int) = a.1.1 → False) → ∃ (_ : Unit), ((↑a.2.3 : Int) = a.1.1 → False) ∧ (((0 = 0 ∧ 0 = 0) ∧ false = false ∧ (0 :
Int) = 0 ∧ QYmpP_1) ∧ (3 : Int) = 3 ∧ True) ∧ True) ∧ True) := by kernel_rfl
theorem runC_len (cs : List Int) : ∀ (n : Nat) (s : MS), (runC cs s n).mem.length = s.mem.length
  | 0, _ => rfl
  | n + 1, s => by
    by_cases h : s.halt = 0
    · rw [runC_succ h, runC_len cs n, stepC_len]
    · rw [runC_halt h]
theorem runC_w32 (cs : List Int) : ∀ (n : Nat) (s : MS), W32 s.mem → W32 (runC cs s n).mem
  | 0, _, hw => hw
  | n + 1, s, hw => by
    by_cases h : s.halt = 0
    · rw [runC_succ h]; exact runC_w32 cs n _ (stepC_w32 _ _ hw)
    · rw [runC_halt h]; exact hw
theorem w32_app {xs ys : List Int} (h : W32 xs) (g : W32 ys) : W32 (xs ++ ys) := fun x hx => by
  rcases List.mem_append.1 hx with h1 | h1
  · exact h x h1
  · exact g x h1
theorem w32_z (n : Nat) : W32 (List.replicate n 0) := fun x hx => by rw [List.eq_of_mem_replicate hx]; omega
theorem g_run1 (a : FtA) (xs cs : List Int) (hc : cdP a.c) (hm : 0 ≤ a.c.m1) (hx : Sli (Value.int .i32) 1 a.v.n a.v.o a.v.l a.v.k a.v.c xs) (hw : W32 xs) (hcs : Sli (Value.int .i64) 4 a.c.i1.n a.c.i1.o a.c.i1.l a.c.i1.k a.c.i1.c cs) : G_run1 a := by
  have hc0 := hc
  have fv := hx.flat
  have fo := opsFlat
  obtain ⟨⟨⟨hn0, hn1⟩, hs0, hs1⟩, hf⟩ := hc
  obtain ⟨f1, f2, f3, f4, f5, f6, f7⟩ := hf
  have a11 : a.1.1 = a.c.cells := rfl
  have a23 : a.2.3 = a.v.l := rfl
  have hl : xs.length = a.v.l := by have := hx.len; omega
  have hwz : W32 (xs ++ z49) := w32_app hw (w32_z 49)
  rw [vc_run1]
  refine ⟨⟨trivial, hc0, xs, hx⟩, by repeat' first | with_reducible apply And.intro | exact trivial | exact rfl | assumption, fun x1 h1 => ?_, fun _ hne => ⟨(), hne, by repeat' first | with_reducible apply And.intro | exact trivial | exact rfl | assumption⟩, trivial⟩
  obtain ⟨hl1, hl2, h1⟩ := h1
  have x11 : x1.1 = x1.l := rfl
  have h2 := h1 xs hx
  have fz := heFlat h2
  have hzl : (xs ++ z49).length = x1.l * 1 := by rw [List.length_append, List.length_replicate]; omega
  have hs : Sli (Value.int .i32) 1 false 0 x1.l x1.l x1.c (xs ++ z49) := Sli.row h2 hzl (Nat.le_refl _) fz
  refine ⟨⟨trivial, ⟨_, hs, hwz⟩, ⟨by omega, by omega⟩, ⟨cs, hcs⟩, ⟨Int.le_refl 0, by decide⟩, ⟨Int.le_refl 0, by decide⟩, hm⟩, by repeat' first | with_reducible apply And.intro | exact trivial | exact rfl | assumption, fun x5 h5 => ?_, trivial⟩
  obtain ⟨q1, q2, q3⟩ := h5.2 _ cs hs hwz hcs
  have h5k := h5.1
  have f5' := heFlat q1
  have x53 : x5.3 = x5.k := rfl
  have hrl : (lastC xs z49 cs a.c.m1).mem.length = x1.l * 1 := by show (runC _ _ _).mem.length = _; rw [runC_len]; exact hzl
  have hs5 : Sli (Value.int .i32) 1 false 0 x1.l x5.k x5.c (lastC xs z49 cs a.c.m1).mem := Sli.row q1 hrl (by omega) f5'
  have hw5 : W32 (lastC xs z49 cs a.c.m1).mem := runC_w32 _ _ _ hwz
  have U : ∀ {p : MS → Prop}, p (lastC xs z49 cs a.c.m1) → ∀ ys ds : List Int, Sli (Value.int .i32) 1 a.v.n a.v.o a.v.l a.v.k a.v.c ys → Sli (Value.int .i64) 4 a.c.i1.n a.c.i1.o a.c.i1.l a.c.i1.k a.c.i1.c ds → p (lastC ys z49 ds a.c.m1) := fun h ys ds hy hd => by rw [Sli.uniqI hy hx, Sli.uniqI hd hcs]; exact h
  refine ⟨by repeat' first | with_reducible apply And.intro | exact trivial | exact rfl | assumption, ⟨trivial, hc0, by omega, _, hs5, hw5⟩, by repeat' first | with_reducible apply And.intro | exact trivial | exact rfl | assumption, fun x9 h9 => ⟨⟨x9.k⟩, ⟨hl1, U (p := fun s => s.halt = 1 ∧ x9.k = s.mem.getD (a.c.cells + 4).toNat 0) ⟨q3.symm.trans h9.1, h9.2 _ hs5⟩⟩, by repeat' first | with_reducible apply And.intro | exact trivial | exact rfl | assumption⟩,
    fun _ h => ⟨(), ⟨hl1, U (p := fun s => s.halt = 2) (q3.symm.trans h)⟩, by repeat' first | with_reducible apply And.intro | exact trivial | exact rfl | assumption⟩, fun _ h => ⟨(), ⟨hl1, U (p := fun s => s.halt ≠ 1 ∧ s.halt ≠ 2) ⟨fun k => h.1 (q3.trans k), fun k => h.2 (q3.trans k)⟩⟩, by repeat' first | with_reducible apply And.intro | exact trivial | exact rfl | assumption⟩, trivial⟩
theorem s_run1 : SpecOK Tryz.prog S_run1.spec := fun a K ⟨hc, hm, ⟨xs, hx, hw⟩, cs, hcs⟩ hq => specD_at (an := []) envOK (cwN_ok (fun _ h => cwP_ok s_stat1 (cwP_ok s_out1 (cwD_ok s_mrun h))) 3) (fun _ => g_run1 a xs cs hc hm hx hw hcs) K ⟨hc, hm, ⟨xs, hx, hw⟩, cs, hcs⟩ hq
end Go.Proofs.YtdjnipabfbblnaaGreatDoor
end

/- Moves: what is told of their bytes, and of what is read (what is to be shown). -/
section
set_option maxRecDepth 100000
namespace Go.Proofs.YtdjnipabfbblnaaGreatDoor
open Go.Ev
-- keep num foldI dnum frm Go.Ev.Sli lookN Byts8 valN lead rdC wdC wsC decM endC unfI OwB Go.Ev.HV LC encM encMk encV MH RI q2C
structure WR where
  at_ : Int
  e : Int
  w : Int
def wdC (bs : List Int) (p e : Int) : WR := if (rdC bs p e 18446744073709551615).e = 0 ∧ (unfI (rdC bs p e 18446744073709551615).n < -2147483648 ∨ 2147483647 < unfI (rdC bs p e 18446744073709551615).n) then ⟨p, 2, 0⟩
  else ⟨(rdC bs p e 18446744073709551615).at_, (rdC bs p e 18446744073709551615).e, IntKind.wrap .i32 (unfI (rdC bs p e 18446744073709551615).n)⟩
structure LW where
  at_ : Int
  e : Int
  ws : List Int
def wsC (bs : List Int) : Nat → Int → Int → LW
  | 0, p, e => ⟨p, e, []⟩
  | n + 1, p, e => if e ≠ 0 then ⟨p, e, []⟩ else ⟨(wsC bs n (wdC bs p e).at_ (wdC bs p e).e).at_, (wsC bs n (wdC bs p e).at_ (wdC bs p e).e).e, (wdC bs p e).w :: (wsC bs n (wdC bs p e).at_ (wdC bs p e).e).ws⟩
def endC (bs : List Int) (p e : Int) : Int := if e = 0 ∧ p < bs.length then 5 else e
structure DM where
  e : Int
  t : Bool
  xs : List Int
  d : D8
def d80 : D8 := ⟨0, 0, 0, 0, 0, 0, 0, 0⟩
def decM (bs : List Int) : DM :=
  if (rdC bs 0 0 1).n = 1 then
    ⟨endC bs (rdC bs (rdC bs 0 0 1).at_ (rdC bs 0 0 1).e 18446744073709551615).at_ (rdC bs (rdC bs 0 0 1).at_ (rdC bs 0 0 1).e 18446744073709551615).e, true, [], frm (rdC bs (rdC bs 0 0 1).at_ (rdC bs 0 0 1).e 18446744073709551615).n⟩
  else
    ⟨endC bs (wsC bs (rdC bs (rdC bs 0 0 1).at_ (rdC bs 0 0 1).e 4).n.toNat (rdC bs (rdC bs 0 0 1).at_ (rdC bs 0 0 1).e 4).at_ (rdC bs (rdC bs 0 0 1).at_ (rdC bs 0 0 1).e 4).e).at_ (wsC bs (rdC bs (rdC bs 0 0 1).at_ (rdC bs 0 0 1).e 4).n.toNat (rdC bs (rdC bs 0 0 1).at_ (rdC bs 0 0 1).e 4).at_ (rdC bs (rdC bs 0 0 1).at_ (rdC bs 0 0 1).e 4).e).e, false,
      (wsC bs (rdC bs (rdC bs 0 0 1).at_ (rdC bs 0 0 1).e 4).n.toNat (rdC bs (rdC bs 0 0 1).at_ (rdC bs 0 0 1).e 4).at_ (rdC bs (rdC bs 0 0 1).at_ (rdC bs 0 0 1).e 4).e).ws, d80⟩
structure SN where
  n : Bool
  l : Nat
  k : Nat
  c : List Value
structure LC (s : SN) (ys : List Int) : Prop where
  he : HE .i32 s.c ys
  l : s.l = ys.length
  le : s.l ≤ s.k
  nil : s.n = true → ys = [] ∧ s.k = 0
structure MA where
  t : Bool
  s : SA
  d : D8
structure MH (a : MA) (xs : List Int) : Prop where
  sl : Sli (Value.int .i32) 1 a.s.n a.s.o a.s.l a.s.k a.s.c xs
  w : ∀ n ∈ xs, -2147483648 ≤ n ∧ n ≤ 2147483647
  d : a.d.Ok
def encM (t : Bool) (xs : List Int) (d : D8) : List Int := if t then num 1 ++ num (dnum d.l).toNat else num 0 ++ num xs.length ++ encV xs xs.length
def encMk (xs : List Int) (k : Nat) : List Int := num 0 ++ num xs.length ++ encV xs k
set_option linter.unusedSectionVars false
variable [Go.Ev.Frozen Tryz.prog]
noncomputable section
abbrev SN.v (s : SN) (i : Nat) : Value := mnS i s.n 0 s.l s.k
abbrev D8.c (d : D8) : List Value := [tgI .u8 d.d0, tgI .u8 d.d1, tgI .u8 d.d2, tgI .u8 d.d3, tgI .u8 d.d4, tgI .u8 d.d5, tgI .u8 d.d6, tgI .u8 d.d7]
abbrev MA.c (a : MA) (i : Nat) : List Value := tg (.bool a.t) :: a.s.v i :: a.d.c
abbrev MA.v (a : MA) (i : Nat) : Value := .agg ⟨a.c i⟩
abbrev MA.R (a : MA) (i : Nat) : List (Nat × PO) := [(i, .f a.s.c 21 .gro)]
def maK {β : Type} (A : AW) (i : Nat) (l : List Value) (k : MA → List (Nat × Nat) → Option β) : Option β := wB (lv l 0) fun t => saK A i (lv l 1) fun s r => d8K (l.drop 2) fun d => k ⟨t, s, d⟩ r
def q2C (bs : List Int) : RR := rdC bs (rdC bs 0 0 1).at_ (rdC bs 0 0 1).e 4
end
end Go.Proofs.YtdjnipabfbblnaaGreatDoor
end
