/- Tables within tables: the innermost one ends (what is to be shown). -/
import Derived.Test.YtfkacmmcgncooaaGreatDoorEv24
import Derived.Test.YtfkacmmcgncooaaGreatDoorYt1
section
set_option maxRecDepth 100000
namespace Go.Proofs.YtfkacmmcgncooaaGreatDoor
open Go.Ev
-- keep turnG isG isGx payR smQ rightQ cells2
set_option linter.unusedSectionVars false
variable [Go.Ev.Frozen Tryz.prog]
noncomputable section
def popL (d : Nat) (a : StA) (b : XyB) : List LvV := nth4 d ([]) ([loV (12 + 2) (a.a.add b.x b.y)]) ([loV (12 + 2) a.a, loV (12 + 18) (a.b.add b.x b.y)]) ([loV (12 + 2) a.a, loV (12 + 18) a.b, loV (12 + 34) (a.c.add b.x b.y)])
def aroO (d : Nat) (a : StA) : OuA := nth4 d (ou0) (a.a) (a.b) (a.c)
def popQ (a : StA) (b : XyB) : Prop := ∃ k j, isG a.g a.p k j ∧ turnG k j < 0 ∧ payR k j (a.x + a.y) b.x b.y
def stR1 (d : Nat) (l : List LvV) : List (Nat × PO) := (12, .p (.row [.slice (some ⟨12 + 1, 0, none⟩) (d - 1) d] 81 .own)) :: (12 + 1, .p (.row (lvsC l) 83 (.grown d))) :: lvsS l
def S_popX (d : Nat) : SpecD where
  f := 22
  α := StA
  args _ := [.pointer (some ⟨12, 0, none⟩)]
  R a := memR d a ++ [(2, .f cells2 356 .ro)]
  n := inB d + 16
  pre a := isGx a.g a.p ∧ (smQ a.x ∧ smQ a.y) ∧ smQ (aroO d a).x ∧ smQ (aroO d a).y
  outs := [⟨XyB, popQ, fun _ _ => .int .i64 0, fun a b => stR1 d (popL d a b) ++ [(inB d + 15, .p .dead)], fun _ _ => inB d + 16, fun _ _ => []⟩,
    ⟨Unit, fun a _ => ∃ k j, isG a.g a.p k j ∧ 0 ≤ turnG k j, fun _ _ => .int .i64 10, fun a _ => stR 12 (12 + 1) d (stL d a), fun _ _ => inB d + 16, fun _ _ => []⟩]
  pick v _ := match v with
    | .int _ z => Int.rec (fun n => Bool.rec 1 0 (Nat.beq n 0)) (fun _ => 1) z
    | _ => 1
  find l A := stK d A (lv l 0) fun a q => some (a, q)
def S_pop1 : SpecD where
  f := 22
  α := StA
  args _ := [.pointer (some ⟨12, 0, none⟩)]
  R a := stR 12 (12 + 1) 1 (stL 1 a) ++ outR (stL 1 a)
  n := inB 1 + 16
  pre _ := True
  outs := [⟨Unit, fun _ _ => True, fun _ _ => .int .i64 9, fun a _ => stR 12 (12 + 1) 1 (stL 1 a), fun _ _ => inB 1 + 16, fun _ _ => []⟩]
  pick _ _ := 0
  find l A := stK 1 A (lv l 0) fun a q => some (a, q)
def cwPop : CW := cwX (fun c => cwD Tryz.prog S_gturn (cwD Tryz.prog S_gpays c)) 4
def G_pop1 (a : StA) : Prop := fnW Tryz.prog E0 cwPop [] S_pop1.f (S_pop1.args a) (mem (S_pop1.R a) S_pop1.n) (endD Tryz.prog S_pop1 a)
def G_pop2 (a : StA) : Prop := fnW Tryz.prog E0 cwPop [] (S_popX 2).f ((S_popX 2).args a) (mem ((S_popX 2).R a) (S_popX 2).n) (endD Tryz.prog (S_popX 2) a)
def G_pop3 (a : StA) : Prop := fnW Tryz.prog E0 cwPop [] (S_popX 3).f ((S_popX 3).args a) (mem ((S_popX 3).R a) (S_popX 3).n) (endD Tryz.prog (S_popX 3) a)
def G_pop4 (a : StA) : Prop := fnW Tryz.prog E0 cwPop [] (S_popX 4).f ((S_popX 4).args a) (mem ((S_popX 4).R a) (S_popX 4).n) (endD Tryz.prog (S_popX 4) a)
end
end Go.Proofs.YtfkacmmcgncooaaGreatDoor
end

/- Tables within tables: the innermost one ends as is told. -/
section
set_option maxRecDepth 100000
namespace Go.Proofs.YtfkacmmcgncooaaGreatDoor
open Go.Ev
set_option linter.unusedSectionVars false
variable [Go.Ev.Frozen Tryz.prog]
noncomputable section
def W_G_pop2_0 : StA → Option AO := fun (a : StA) => some (AO.row ([Zp 14 0, sc 26 2, sc 27 2, sc 28 2, tgI .i64 a.1.1, tgI .i64 a.1.2, tgI .i64 a.1.3, tgI .i64 a.1.4, tgI .u64
 a.1.5, sc 29 2] ++ ([Zp 30 0, sc 42 2, sc 43 2, sc 44 2, tgI .i64 a.5.4, tgI .i64 a.5.5, tgI .i64 a.5.6, tgI .i64 a.5.7, tgI .u64 a.5.8, sc 45 2] ++ [])) 83 (Md.grown 2))
def W_G_pop3_0 : StA → Option AO := fun (a : StA) => some (AO.row ([Zp 14 0, sc 26 2, sc 27 2, sc 28 2, tgI .i64 a.1.1, tgI .i64 a.1.2, tgI .i64 a.1.3, tgI .i64 a.1.4, tgI .u64
 a.1.5, sc 29 2] ++ ([Zp 30 0, sc 42 2, sc 43 2, sc 44 2, tgI .i64 a.2.1, tgI .i64 a.2.2, tgI .i64 a.2.3, tgI .i64 a.2.4, tgI .u64 a.2.5, sc 45 2] ++ ([Zp 46 0, sc 58 2, sc 59 2, sc
 60 2, tgI .i64 a.5.4, tgI .i64 a.5.5, tgI .i64 a.5.6, tgI .i64 a.5.7, tgI .u64 a.5.8, sc 61 2] ++ []))) 83 (Md.grown 3))
def W_G_pop4_0 : StA → Option AO := fun (a : StA) => some (AO.row ([Zp 14 0, sc 26 2, sc 27 2, sc 28 2, tgI .i64 a.1.1, tgI .i64 a.1.2, tgI .i64 a.1.3, tgI .i64 a.1.4, tgI .u64
 a.1.5, sc 29 2] ++ ([Zp 30 0, sc 42 2, sc 43 2, sc 44 2, tgI .i64 a.2.1, tgI .i64 a.2.2, tgI .i64 a.2.3, tgI .i64 a.2.4, tgI .u64 a.2.5, sc 45 2] ++ ([Zp 46 0, sc 58 2, sc 59 2, sc
 60 2, tgI .i64 a.3.1, tgI .i64 a.3.2, tgI .i64 a.3.3, tgI .i64 a.3.4, tgI .u64 a.3.5, sc 61 2] ++ ([Zp 62 0, sc 74 2, sc 75 2, sc 76 2, tgI .i64 a.5.4, tgI .i64 a.5.5, tgI .i64
 a.5.6, tgI .i64 a.5.7, tgI .u64 a.5.8, sc 77 2] ++ [])))) 83 (Md.grown 4))
end
abbrev QYp1P_1 (a0 : StA) : Prop := (True ∧ True ∧ Z2 ∧ Z1 a0.4.19.1 ∧ Z1 a0.4.19.2 ∧ Z1 a0.4.19.3 ∧ Z1 a0.4.19.4 ∧ Z1 a0.4.19.5 ∧ Z1 a0.4.19.6 ∧ Z1 a0.4.19.7 ∧ Z1 a0.4.19.8 ∧ 0 =
 0 ∧ (0 = 0 ∧ 1 = 1 ∧ 1 = 1) ∧ Z2 ∧ True) ∧ (True ∧ FlatL [Value.int .i64 1, Value.int .i64 1] ∧ [Value.int .i64 1, Value.int .i64 1] = [Value.int .i64 1, Value.int .i64 1]) ∧ (True
 ∧ (2 : Int) = 2 ∧ (2 : Int) = 2 ∧ Z2 ∧ (0 = 0 ∧ 1 = 1 ∧ 1 = 1) ∧ (0 = 0 ∧ Z1 a0.4.1 ∧ Z1 a0.4.1) ∧ (0 = 0 ∧ Z1 a0.4.2 ∧ Z1 a0.4.2) ∧ (0 = 0 ∧ Z1 a0.4.3 ∧ Z1 a0.4.3) ∧ (0 = 0 ∧ Z1
 a0.4.4 ∧ Z1 a0.4.4) ∧ (0 = 0 ∧ Z1 a0.4.5 ∧ Z1 a0.4.5) ∧ Z1 a0.4.6 ∧ Z1 a0.4.7 ∧ Z1 a0.4.8 ∧ Z1 a0.4.9 ∧ Z1 a0.4.10 ∧ True) ∧ (True ∧ FlatL [Value.int .i32 0, Value.int .i32 0] ∧
 [Value.int .i32 0, Value.int .i32 0] = [Value.int .i32 0, Value.int .i32 0]) ∧ ZF a0.4.11 ∧ ZF a0.4.12 ∧ ZF a0.4.13 ∧ ZF a0.4.14 ∧ ZF a0.4.15 ∧ ZF a0.4.16 ∧ ZF a0.4.17 ∧ ZF a0.4.18
 ∧ ZF a0.5.1 ∧ ZF a0.5.2 ∧ ZF a0.5.3 ∧ ZF cells2 ∧ True
abbrev QYp1P_2 : Prop := True ∧ True ∧ True ∧ True ∧ True ∧ True ∧ True ∧ True ∧ True ∧ True ∧ True ∧ True
abbrev QYp1P_3 (a0 : PoA) : Prop := Z2 ∧ Z2 ∧ Z2 ∧ Z1 a0.4 ∧ Z1 a0.5 ∧ Z1 a0.6 ∧ Z1 a0.7 ∧ Z1 a0.8 ∧ True
abbrev QYp1P_4 (a0 : PoA) : Prop := 0 = 0 ∧ Z2 ∧ Z2 ∧ Z2 ∧ Z1 a0.4 ∧ Z1 a0.5 ∧ Z1 a0.6 ∧ Z1 a0.7 ∧ Z1 a0.8 ∧ Z2 ∧ True
abbrev QYp1P_5 (a0 : StA) (a1 : XyB) : Prop := ∃ (b0 b1 : Nat), isG a0.4 a0.5 b0 b1 ∧ turnG b0 b1 < (0 : Int) ∧ payR b0 b1 (a0.6 + a0.7) a1.1 a1.2
abbrev QYp1P_6 (a0 : OuA) : Prop := 0 = 0 ∧ Z2 ∧ Z2 ∧ Z2 ∧ Z1 a0.1 ∧ Z1 a0.2 ∧ Z1 a0.3 ∧ Z1 a0.4 ∧ Z1 a0.5 ∧ Z2 ∧ True
abbrev QYp1P_7 (a0 : StA) (a1 : Int) : Prop := True ∧ (∃ (b0 b1 : Nat), isG a0.4 a0.5 b0 b1 ∧ turnG b0 b1 < (0 : Int)) ∧ rightQ a1
theorem vc_pop1 (a : StA) : G_pop1 a = (∃ (_ : Unit), True ∧ (9 : Int) = 9 ∧ (True ∧ (0 = 0 ∧ 1 = 1 ∧ 1 = 1) ∧ True) ∧ (1 = 1 ∧ QYp1P_4 a.5) ∧ (2 = 2 ∧ Z1 a.6 ∧ Z1 a.7 ∧ True) ∧ True) := by kernel_rfl
set_option maxHeartbeats 3200000 in
theorem vc_pop2 (a : StA) : G_pop2 a = ((True ∧ QYp1P_2) ∧ (True ∧ (∃ (x0 x1 : Nat), isG a.4 a.5 x0 x1)) ∧ ((0 = 0 ∧ QYp1P_3 a.5 ∧ True) ∧ QYp1P_1 a) ∧ (∀ (x2 : TnB), (∃ (x3 x4 : Nat), isG a.4 a.5 x3 x4 ∧ x2.1 = turnG
x3 x4) → (x2.1 < 0 → QYp1P_2 ∧ (∀ (x5 : Int), x5 = IntKind.wrap .i64 ((0 : Int) + a.6) → ∀ (x6 : Int), x6 = IntKind.wrap .i64 (x5 + a.7) → QYp1P_7 a x6 ∧ ((0 = 0 ∧ QYp1P_3 a.5 ∧ x6
= x6 ∧ True) ∧ QYp1P_1 a) ∧ (∀ (x9 : XyB), (∃ (x10 x11 : Nat), isG a.4 a.5 x10 x11 ∧ payR x10 x11 x6 x9.1 x9.2) → ((True ∧ True) ∧ (True ∧ True) ∧ (True ∧ True) ∧ (W_G_pop2_0 a =
W_G_pop2_0 a ∧ True) ∧ (True ∧ True) ∧ (True ∧ True) ∧ (True ∧ True) ∧ (W_G_pop2_0 a = W_G_pop2_0 a ∧ True) ∧ QYp1P_2) ∧ (True ∧ True ∧ True ∧ True ∧ QYp1P_2) ∧ (True ∧ QYp1P_2) ∧
∀ (x12 : Int), x12 = IntKind.wrap .i64 (a.1.6 + x9.1) → ∀ (x13 : Int), x13 = IntKind.wrap .i64 (a.1.7 + x9.2) → ∃ (x14 : XyB), QYp1P_5 a x14 ∧ (0 : Int) = 0 ∧ (True ∧ (0 = 0 ∧ 1 =
1 ∧ 2 = 2) ∧ True) ∧ (2 = 2 ∧ QYp1P_6 a.1) ∧ (2 = 2 ∧ a.1.6 + x14.1 = x12 ∧ a.1.7 + x14.2 = x13 ∧ True) ∧ True ∧ True) ∧ True)) ∧ (¬(x2.1 < 0) → QYp1P_2 ∧ ∃ (_ : Unit), (∃ (x18 x19
: Nat), isG a.4 a.5 x18 x19 ∧ (0 : Int) ≤ turnG x18 x19) ∧ (10 : Int) = 10 ∧ (True ∧ Z2 ∧ True) ∧ (2 = 2 ∧ 0 = 0 ∧ Z2 ∧ Z2 ∧ Z2 ∧ Z1 a.1.1 ∧ Z1 a.1.2 ∧ Z1 a.1.3 ∧ Z1 a.1.4 ∧ Z1
a.1.5 ∧ Z2 ∧ QYp1P_4 a.5) ∧ (2 = 2 ∧ Z1 a.1.6 ∧ Z1 a.1.7 ∧ True) ∧ (2 = 2 ∧ Z1 a.6 ∧ Z1 a.7 ∧ True) ∧ True)) ∧ True) := by kernel_rfl
set_option maxHeartbeats 3200000 in
theorem vc_pop3 (a : StA) : G_pop3 a = ((True ∧ QYp1P_2) ∧ (True ∧ (∃ (x0 x1 : Nat), isG a.4 a.5 x0 x1)) ∧ ((0 = 0 ∧ QYp1P_3 a.5 ∧ True) ∧ QYp1P_1 a) ∧ (∀ (x2 : TnB), (∃ (x3 x4 : Nat), isG a.4 a.5 x3 x4 ∧ x2.1 = turnG
x3 x4) → (x2.1 < 0 → QYp1P_2 ∧ (∀ (x5 : Int), x5 = IntKind.wrap .i64 ((0 : Int) + a.6) → ∀ (x6 : Int), x6 = IntKind.wrap .i64 (x5 + a.7) → QYp1P_7 a x6 ∧ ((0 = 0 ∧ QYp1P_3 a.5 ∧ x6
= x6 ∧ True) ∧ QYp1P_1 a) ∧ (∀ (x9 : XyB), (∃ (x10 x11 : Nat), isG a.4 a.5 x10 x11 ∧ payR x10 x11 x6 x9.1 x9.2) → ((True ∧ True) ∧ (True ∧ True) ∧ (True ∧ True) ∧ (W_G_pop3_0 a =
W_G_pop3_0 a ∧ True) ∧ (True ∧ True) ∧ (True ∧ True) ∧ (True ∧ True) ∧ (W_G_pop3_0 a = W_G_pop3_0 a ∧ True) ∧ QYp1P_2) ∧ (True ∧ True ∧ True ∧ True ∧ QYp1P_2) ∧ (True ∧ QYp1P_2) ∧
∀ (x12 : Int), x12 = IntKind.wrap .i64 (a.2.6 + x9.1) → ∀ (x13 : Int), x13 = IntKind.wrap .i64 (a.2.7 + x9.2) → ∃ (x14 : XyB), QYp1P_5 a x14 ∧ (0 : Int) = 0 ∧ (True ∧ (0 = 0 ∧ 2 =
2 ∧ 3 = 3) ∧ True) ∧ (3 = 3 ∧ 0 = 0 ∧ Z2 ∧ Z2 ∧ Z2 ∧ Z1 a.1.1 ∧ Z1 a.1.2 ∧ Z1 a.1.3 ∧ Z1 a.1.4 ∧ Z1 a.1.5 ∧ Z2 ∧ QYp1P_6 a.2) ∧ (2 = 2 ∧ Z1 a.1.6 ∧ Z1 a.1.7 ∧ True) ∧ (2 = 2 ∧
a.2.6 + x14.1 = x12 ∧ a.2.7 + x14.2 = x13 ∧ True) ∧ True ∧ True) ∧ True)) ∧ (¬(x2.1 < 0) → QYp1P_2 ∧ ∃ (_ : Unit), (∃ (x18 x19 : Nat), isG a.4 a.5 x18 x19 ∧ (0 : Int) ≤ turnG x18
x19) ∧ (10 : Int) = 10 ∧ (True ∧ (0 = 0 ∧ 3 = 3 ∧ 3 = 3) ∧ True) ∧ (3 = 3 ∧ 0 = 0 ∧ Z2 ∧ Z2 ∧ Z2 ∧ Z1 a.1.1 ∧ Z1 a.1.2 ∧ Z1 a.1.3 ∧ Z1 a.1.4 ∧ Z1 a.1.5 ∧ Z2 ∧ 0 = 0 ∧ Z2 ∧ Z2 ∧ Z2
∧ Z1 a.2.1 ∧ Z1 a.2.2 ∧ Z1 a.2.3 ∧ Z1 a.2.4 ∧ Z1 a.2.5 ∧ Z2 ∧ QYp1P_4 a.5) ∧ (2 = 2 ∧ Z1 a.1.6 ∧ Z1 a.1.7 ∧ True) ∧ (2 = 2 ∧ Z1 a.2.6 ∧ Z1 a.2.7 ∧ True) ∧ (2 = 2 ∧ Z1 a.6 ∧ Z1 a.7
∧ True) ∧ True)) ∧ True) := by kernel_rfl
set_option maxHeartbeats 3200000 in
theorem vc_pop4 (a : StA) : G_pop4 a = ((True ∧ QYp1P_2) ∧ (True ∧ (∃ (x0 x1 : Nat), isG a.4 a.5 x0 x1)) ∧ ((0 = 0 ∧ QYp1P_3 a.5 ∧ True) ∧ QYp1P_1 a) ∧ (∀ (x2 : TnB), (∃ (x3 x4 : Nat), isG a.4 a.5 x3 x4 ∧ x2.1 = turnG
x3 x4) → (x2.1 < 0 → QYp1P_2 ∧ (∀ (x5 : Int), x5 = IntKind.wrap .i64 ((0 : Int) + a.6) → ∀ (x6 : Int), x6 = IntKind.wrap .i64 (x5 + a.7) → QYp1P_7 a x6 ∧ ((0 = 0 ∧ QYp1P_3 a.5 ∧ x6
= x6 ∧ True) ∧ QYp1P_1 a) ∧ (∀ (x9 : XyB), (∃ (x10 x11 : Nat), isG a.4 a.5 x10 x11 ∧ payR x10 x11 x6 x9.1 x9.2) → ((True ∧ True) ∧ (True ∧ True) ∧ (True ∧ True) ∧ (W_G_pop4_0 a =
W_G_pop4_0 a ∧ True) ∧ (True ∧ True) ∧ (True ∧ True) ∧ (True ∧ True) ∧ (W_G_pop4_0 a = W_G_pop4_0 a ∧ True) ∧ QYp1P_2) ∧ (True ∧ True ∧ True ∧ True ∧ QYp1P_2) ∧ (True ∧ QYp1P_2) ∧
∀ (x12 : Int), x12 = IntKind.wrap .i64 (a.3.6 + x9.1) → ∀ (x13 : Int), x13 = IntKind.wrap .i64 (a.3.7 + x9.2) → ∃ (x14 : XyB), QYp1P_5 a x14 ∧ (0 : Int) = 0 ∧ (True ∧ (0 = 0 ∧ 3 =
3 ∧ 4 = 4) ∧ True) ∧ (4 = 4 ∧ 0 = 0 ∧ Z2 ∧ Z2 ∧ Z2 ∧ Z1 a.1.1 ∧ Z1 a.1.2 ∧ Z1 a.1.3 ∧ Z1 a.1.4 ∧ Z1 a.1.5 ∧ Z2 ∧ 0 = 0 ∧ Z2 ∧ Z2 ∧ Z2 ∧ Z1 a.2.1 ∧ Z1 a.2.2 ∧ Z1 a.2.3 ∧ Z1 a.2.4 ∧
Z1 a.2.5 ∧ Z2 ∧ QYp1P_6 a.3) ∧ (2 = 2 ∧ Z1 a.1.6 ∧ Z1 a.1.7 ∧ True) ∧ (2 = 2 ∧ Z1 a.2.6 ∧ Z1 a.2.7 ∧ True) ∧ (2 = 2 ∧ a.3.6 + x14.1 = x12 ∧ a.3.7 + x14.2 = x13 ∧ True) ∧ True ∧
True) ∧ True)) ∧ (¬(x2.1 < 0) → QYp1P_2 ∧ ∃ (_ : Unit), (∃ (x18 x19 : Nat), isG a.4 a.5 x18 x19 ∧ (0 : Int) ≤ turnG x18 x19) ∧ (10 : Int) = 10 ∧ (True ∧ (0 = 0 ∧ 4 = 4 ∧ 4 = 4) ∧
True) ∧ (4 = 4 ∧ 0 = 0 ∧ Z2 ∧ Z2 ∧ Z2 ∧ Z1 a.1.1 ∧ Z1 a.1.2 ∧ Z1 a.1.3 ∧ Z1 a.1.4 ∧ Z1 a.1.5 ∧ Z2 ∧ 0 = 0 ∧ Z2 ∧ Z2 ∧ Z2 ∧ Z1 a.2.1 ∧ Z1 a.2.2 ∧ Z1 a.2.3 ∧ Z1 a.2.4 ∧ Z1 a.2.5 ∧ Z2
∧ 0 = 0 ∧ Z2 ∧ Z2 ∧ Z2 ∧ Z1 a.3.1 ∧ Z1 a.3.2 ∧ Z1 a.3.3 ∧ Z1 a.3.4 ∧ Z1 a.3.5 ∧ Z2 ∧ QYp1P_4 a.5) ∧ (2 = 2 ∧ Z1 a.1.6 ∧ Z1 a.1.7 ∧ True) ∧ (2 = 2 ∧ Z1 a.2.6 ∧ Z1 a.2.7 ∧ True) ∧ (2
= 2 ∧ Z1 a.3.6 ∧ Z1 a.3.7 ∧ True) ∧ (2 = 2 ∧ Z1 a.6 ∧ Z1 a.7 ∧ True) ∧ True)) ∧ True) := by kernel_rfl
theorem payR_ok {k j : Nat} {w x y : Int} (h : payR k j w x y) (hw : 0 ≤ w) : (0 ≤ x ∧ 0 ≤ y) ∧ x + y = w := by
  rcases h with ⟨-, h1, h2⟩ | ⟨a, h1, h2, h3⟩
  · omega
  · have := List.all_eq_true.1 payT_small _ h1
    simp only [Bool.and_eq_true, decide_eq_true_eq] at this
    have h4 : x = a ∨ x = w := by split at h2 <;> omega
    have h5 : x ≤ w := by split at h2 <;> omega
    omega
theorem g_pop1 (a : StA) : GW (G_pop1 a) := by
  refine ⟨?_⟩
  rw [vc_pop1]
  exact ⟨(), by (and_intros<;>first|trivial|rfl)⟩
theorem g_pop2 (a : StA) (hp : isGx a.g a.p) (hs : smQ a.x ∧ smQ a.y) (ho : smQ a.a.x ∧ smQ a.a.y) : GW (G_pop2 a) := by
  obtain ⟨k, j, hi⟩ := hp
  obtain ⟨⟨s1, s2⟩, s3, s4⟩ := hs
  obtain ⟨⟨o1, o2⟩, o3, o4⟩ := ho
  obtain ⟨f1, f2, f3, f4, f5, f6, f7, f8, f9, f10, f11⟩ := flG_of hi
  have f12 := fl11
  have f13 := fl00
  have f14 := glO
  refine ⟨?_⟩
  rw [vc_pop2]
  (repeat(apply And.intro;focus(and_intros<;>first|trivial|rfl)))
  refine ⟨⟨trivial, k, j, hi⟩, by (and_intros<;>first|trivial|rfl), fun t ht => ?_, trivial⟩
  obtain ⟨k', j', hi', ht⟩ := ht
  obtain ⟨rfl, rfl⟩ := isG_inj hi hi'
  (repeat(apply And.intro;focus(and_intros<;>first|trivial|rfl)))
  refine ⟨fun h0 => ?_, fun h0 => ⟨by (and_intros<;>first|trivial|rfl), (), ⟨k, j, hi, by omega⟩, by (and_intros<;>first|trivial|rfl)⟩⟩
  (repeat(apply And.intro;focus(and_intros<;>first|trivial|rfl)))
  intro x5 e5 x6 e6
  rw [wr64 (by omega)] at e5 e6
  (repeat(apply And.intro;focus(and_intros<;>first|trivial|rfl)))
  refine ⟨⟨trivial, ⟨k, j, hi, by omega⟩, by unfold rightQ; omega⟩, by (and_intros<;>first|trivial|rfl), fun b hb => ?_, trivial⟩
  obtain ⟨k', j', hi', hb⟩ := hb
  obtain ⟨rfl, rfl⟩ := isG_inj hi hi'
  have hok := payR_ok hb (by omega)
  (repeat(apply And.intro;focus(and_intros<;>first|trivial|rfl)))
  intro x12 e12 x13 e13
  rw [wr64 (by omega)] at e12 e13
  have e6' : x6 = a.x + a.y := by omega
  rw [e6'] at hb
  have e12 := e12.symm
  have e13 := e13.symm
  refine ⟨b, ⟨k, j, hi, by omega, hb⟩, ?_⟩
  (and_intros<;>first|trivial|rfl)
theorem g_pop3 (a : StA) (hp : isGx a.g a.p) (hs : smQ a.x ∧ smQ a.y) (ho : smQ a.b.x ∧ smQ a.b.y) : GW (G_pop3 a) := by
  obtain ⟨k, j, hi⟩ := hp
  obtain ⟨⟨s1, s2⟩, s3, s4⟩ := hs
  obtain ⟨⟨o1, o2⟩, o3, o4⟩ := ho
  obtain ⟨f1, f2, f3, f4, f5, f6, f7, f8, f9, f10, f11⟩ := flG_of hi
  have f12 := fl11
  have f13 := fl00
  have f14 := glO
  refine ⟨?_⟩
  rw [vc_pop3]
  (repeat(apply And.intro;focus(and_intros<;>first|trivial|rfl)))
  refine ⟨⟨trivial, k, j, hi⟩, by (and_intros<;>first|trivial|rfl), fun t ht => ?_, trivial⟩
  obtain ⟨k', j', hi', ht⟩ := ht
  obtain ⟨rfl, rfl⟩ := isG_inj hi hi'
  (repeat(apply And.intro;focus(and_intros<;>first|trivial|rfl)))
  refine ⟨fun h0 => ?_, fun h0 => ⟨by (and_intros<;>first|trivial|rfl), (), ⟨k, j, hi, by omega⟩, by (and_intros<;>first|trivial|rfl)⟩⟩
  (repeat(apply And.intro;focus(and_intros<;>first|trivial|rfl)))
  intro x5 e5 x6 e6
  rw [wr64 (by omega)] at e5 e6
  (repeat(apply And.intro;focus(and_intros<;>first|trivial|rfl)))
  refine ⟨⟨trivial, ⟨k, j, hi, by omega⟩, by unfold rightQ; omega⟩, by (and_intros<;>first|trivial|rfl), fun b hb => ?_, trivial⟩
  obtain ⟨k', j', hi', hb⟩ := hb
  obtain ⟨rfl, rfl⟩ := isG_inj hi hi'
  have hok := payR_ok hb (by omega)
  (repeat(apply And.intro;focus(and_intros<;>first|trivial|rfl)))
  intro x12 e12 x13 e13
  rw [wr64 (by omega)] at e12 e13
  have e6' : x6 = a.x + a.y := by omega
  rw [e6'] at hb
  have e12 := e12.symm
  have e13 := e13.symm
  refine ⟨b, ⟨k, j, hi, by omega, hb⟩, ?_⟩
  (and_intros<;>first|trivial|rfl)
theorem g_pop4 (a : StA) (hp : isGx a.g a.p) (hs : smQ a.x ∧ smQ a.y) (ho : smQ a.c.x ∧ smQ a.c.y) : GW (G_pop4 a) := by
  obtain ⟨k, j, hi⟩ := hp
  obtain ⟨⟨s1, s2⟩, s3, s4⟩ := hs
  obtain ⟨⟨o1, o2⟩, o3, o4⟩ := ho
  obtain ⟨f1, f2, f3, f4, f5, f6, f7, f8, f9, f10, f11⟩ := flG_of hi
  have f12 := fl11
  have f13 := fl00
  have f14 := glO
  refine ⟨?_⟩
  rw [vc_pop4]
  (repeat(apply And.intro;focus(and_intros<;>first|trivial|rfl)))
  refine ⟨⟨trivial, k, j, hi⟩, by (and_intros<;>first|trivial|rfl), fun t ht => ?_, trivial⟩
  obtain ⟨k', j', hi', ht⟩ := ht
  obtain ⟨rfl, rfl⟩ := isG_inj hi hi'
  (repeat(apply And.intro;focus(and_intros<;>first|trivial|rfl)))
  refine ⟨fun h0 => ?_, fun h0 => ⟨by (and_intros<;>first|trivial|rfl), (), ⟨k, j, hi, by omega⟩, by (and_intros<;>first|trivial|rfl)⟩⟩
  (repeat(apply And.intro;focus(and_intros<;>first|trivial|rfl)))
  intro x5 e5 x6 e6
  rw [wr64 (by omega)] at e5 e6
  (repeat(apply And.intro;focus(and_intros<;>first|trivial|rfl)))
  refine ⟨⟨trivial, ⟨k, j, hi, by omega⟩, by unfold rightQ; omega⟩, by (and_intros<;>first|trivial|rfl), fun b hb => ?_, trivial⟩
  obtain ⟨k', j', hi', hb⟩ := hb
  obtain ⟨rfl, rfl⟩ := isG_inj hi hi'
  have hok := payR_ok hb (by omega)
  (repeat(apply And.intro;focus(and_intros<;>first|trivial|rfl)))
  intro x12 e12 x13 e13
  rw [wr64 (by omega)] at e12 e13
  have e6' : x6 = a.x + a.y := by omega
  rw [e6'] at hb
  have e12 := e12.symm
  have e13 := e13.symm
  refine ⟨b, ⟨k, j, hi, by omega, hb⟩, ?_⟩
  (and_intros<;>first|trivial|rfl)
theorem cwPop_ok : CwOK Tryz.prog cwPop := cwX_ok (fun _ h => cwD_ok s_gturn (cwD_ok s_gpays h)) 4
theorem s_pop1 : SpecOK Tryz.prog S_pop1.spec := fun a => specG_at (an := []) envOK cwPop_ok fun _ => g_pop1 a
theorem s_popX2 : SpecOK Tryz.prog (S_popX 2).spec := fun a => specG_at (S := S_popX 2) (an := []) envOK cwPop_ok fun hp => g_pop2 a hp.1 hp.2.1 hp.2.2
theorem s_popX3 : SpecOK Tryz.prog (S_popX 3).spec := fun a => specG_at (S := S_popX 3) (an := []) envOK cwPop_ok fun hp => g_pop3 a hp.1 hp.2.1 hp.2.2
theorem s_popX4 : SpecOK Tryz.prog (S_popX 4).spec := fun a => specG_at (S := S_popX 4) (an := []) envOK cwPop_ok fun hp => g_pop4 a hp.1 hp.2.1 hp.2.2
end Go.Proofs.YtfkacmmcgncooaaGreatDoor
end

/- Tables within tables: behind an end the row of the tables has a new name. -/
section
set_option maxRecDepth 100000
namespace Go.Proofs.YtfkacmmcgncooaaGreatDoor
open Go.Ev
structure PbA where
  a : StA
  b : XyB
set_option linter.unusedSectionVars false
variable [Go.Ev.Frozen Tryz.prog]
noncomputable section
def popN (d : Nat) : Nat := inB d + 16
def popB (d : Nat) (a : StA) (b : XyB) : AW := ⟨(((mem (stR1 d (popL d a b) ++ [(inB d + 15, .p .dead)]) (popN d)).heap.set (12 + 1) .dead).set 12 (.row [.slice (some ⟨popN d, 0, none⟩) (d - 1) (d - 1)] 81 .own)).set (popN d) (.row (lvsC (popL d a b)) 83 (.grown (d - 1))), popN d + 1⟩
def deadR (d : Nat) : List (Nat × PO) := [(12 + 1, .p .dead), (inB d + 15, .p .dead)]
def S_pop (d : Nat) : SpecD where
  f := 22
  α := StA
  args _ := [.pointer (some ⟨12, 0, none⟩)]
  R a := memR d a ++ [(2, .f cells2 356 .ro)]
  n := popN d
  pre a := isGx a.g a.p ∧ (smQ a.x ∧ smQ a.y) ∧ smQ (aroO d a).x ∧ smQ (aroO d a).y
  outs := [⟨XyB, popQ, fun _ _ => .int .i64 0, fun a b => stR 12 (popN d) (d - 1) (popL d a b) ++ deadR d, fun _ _ => popN d + 1, fun _ _ => []⟩,
    ⟨Unit, fun a _ => ∃ k j, isG a.g a.p k j ∧ 0 ≤ turnG k j, fun _ _ => .int .i64 10, fun a _ => stR 12 (12 + 1) d (stL d a), fun _ _ => popN d, fun _ _ => []⟩]
  pick v _ := match v with
    | .int _ z => Int.rec (fun n => Bool.rec 1 0 (Nat.beq n 0)) (fun _ => 1) z
    | _ => 1
  find l A := stK d A (lv l 0) fun a q => some (a, q)
def G_sh2 (q : PbA) : Prop := seenW Tryz.prog (popN 2) [(popN 2, popN 2)] (.int .i64 0) (popB 2 q.a q.b) (.int .i64 0) (stR 12 (popN 2) (2 - 1) (popL 2 q.a q.b) ++ deadR 2) (popN 2 + 1)
def G_sh3 (q : PbA) : Prop := seenW Tryz.prog (popN 3) [(popN 3, popN 3)] (.int .i64 0) (popB 3 q.a q.b) (.int .i64 0) (stR 12 (popN 3) (3 - 1) (popL 3 q.a q.b) ++ deadR 3) (popN 3 + 1)
def G_sh4 (q : PbA) : Prop := seenW Tryz.prog (popN 4) [(popN 4, popN 4)] (.int .i64 0) (popB 4 q.a q.b) (.int .i64 0) (stR 12 (popN 4) (4 - 1) (popL 4 q.a q.b) ++ deadR 4) (popN 4 + 1)
end
end Go.Proofs.YtfkacmmcgncooaaGreatDoor
end

/- Tables within tables: behind an end the row of the tables has a new name: the contract. -/
section
set_option maxRecDepth 100000
namespace Go.Proofs.YtfkacmmcgncooaaGreatDoor
open Go.Ev
set_option linter.unusedSectionVars false
variable [Go.Ev.Frozen Tryz.prog]
abbrev QYd0P_1 (a0 : OuA) : Prop := 0 = 0 ∧ Z2 ∧ Z2 ∧ Z2 ∧ Z1 a0.1 ∧ Z1 a0.2 ∧ Z1 a0.3 ∧ Z1 a0.4 ∧ Z1 a0.5 ∧ Z2 ∧ True
theorem vc_sh2 (q : PbA) : G_sh2 q = ((0 : Int) = 0 ∧ (True ∧ (0 = 0 ∧ 1 = 1 ∧ 1 = 1) ∧ True) ∧ (1 = 1 ∧ QYd0P_1 q.1.1) ∧ (2 = 2 ∧ q.1.1.6 + q.2.1 = q.1.1.6 + q.2.1 ∧ q.1.1.7 + q.2.2 = q.1.1.7 + q.2.2 ∧ True) ∧ True ∧
True ∧ True) := by kernel_rfl
theorem g_sh2 (q : PbA) : G_sh2 q := by
  rw [vc_sh2]
  (and_intros<;>first|trivial|rfl)
theorem sh_st2 (a : StA) (b : XyB) : (mem (stR1 2 (popL 2 a b) ++ [(inB 2 + 15, .p .dead)]) (popN 2)).heap.get 12 = some (.row [.slice (some ⟨12 + 1, 0, none⟩) (2 - 1) 2] 81 .own) := by kernel_rfl
theorem sh_lv2 (a : StA) (b : XyB) : (mem (stR1 2 (popL 2 a b) ++ [(inB 2 + 15, .p .dead)]) (popN 2)).heap.get (12 + 1) = some (.row (lvsC (popL 2 a b)) 83 (.grown 2)) := by kernel_rfl
theorem s_pop2 : SpecOK Tryz.prog (S_pop 2).spec := fun a K hp hq => by
  obtain ⟨v, R', n', hK, hfR, hsem⟩ := s_popX2 a (fun v R' n' => (∃ b, popQ a b ∧ v = .int .i64 0 ∧ R' = stR1 2 (popL 2 a b) ++ [(inB 2 + 15, .p .dead)] ∧ n' = popN 2) ∨ K v R' n') hp ⟨fun b hb => .inl ⟨b, hb, rfl, rfl, rfl⟩, fun u hu => .inr (hq.2.1 u hu), trivial⟩
  rcases hK with ⟨b, hb, rfl, rfl, rfl⟩ | hK
  · have h := fnSem_shift (i := 12) (j := 12 + 1) (c' := 2 - 1) hsem (by decide) (sh_st2 a b) (sh_lv2 a b) (by decide) (by rw [show Tryz.prog.globals.size = 12 from by kernel_rfl]; decide)
    have hs := g_sh2 ⟨a, b⟩
    unfold G_sh2 at hs
    have hw := hs
    unfold seenW at hw
    exact ⟨_, _, _, hq.1 b hb, flatR_rows (cpb_iff.1 hw).2.2, fnSem_seen (A := mem ((S_pop 2).R a) (popN 2)) rfl h hs⟩
  · exact ⟨v, R', n', hK, hfR, hsem⟩
theorem vc_sh3 (q : PbA) : G_sh3 q = ((0 : Int) = 0 ∧ (True ∧ Z2 ∧ True) ∧ (2 = 2 ∧ 0 = 0 ∧ Z2 ∧ Z2 ∧ Z2 ∧ Z1 q.1.1.1 ∧ Z1 q.1.1.2 ∧ Z1 q.1.1.3 ∧ Z1 q.1.1.4 ∧ Z1 q.1.1.5 ∧ Z2 ∧ QYd0P_1 q.1.2) ∧ (2 = 2 ∧ Z1 q.1.1.6 ∧
Z1 q.1.1.7 ∧ True) ∧ (2 = 2 ∧ q.1.2.6 + q.2.1 = q.1.2.6 + q.2.1 ∧ q.1.2.7 + q.2.2 = q.1.2.7 + q.2.2 ∧ True) ∧ True ∧ True ∧ True) := by kernel_rfl
theorem g_sh3 (q : PbA) : G_sh3 q := by
  rw [vc_sh3]
  (and_intros<;>first|trivial|rfl)
theorem sh_st3 (a : StA) (b : XyB) : (mem (stR1 3 (popL 3 a b) ++ [(inB 3 + 15, .p .dead)]) (popN 3)).heap.get 12 = some (.row [.slice (some ⟨12 + 1, 0, none⟩) (3 - 1) 3] 81 .own) := by kernel_rfl
theorem sh_lv3 (a : StA) (b : XyB) : (mem (stR1 3 (popL 3 a b) ++ [(inB 3 + 15, .p .dead)]) (popN 3)).heap.get (12 + 1) = some (.row (lvsC (popL 3 a b)) 83 (.grown 3)) := by kernel_rfl
theorem s_pop3 : SpecOK Tryz.prog (S_pop 3).spec := fun a K hp hq => by
  obtain ⟨v, R', n', hK, hfR, hsem⟩ := s_popX3 a (fun v R' n' => (∃ b, popQ a b ∧ v = .int .i64 0 ∧ R' = stR1 3 (popL 3 a b) ++ [(inB 3 + 15, .p .dead)] ∧ n' = popN 3) ∨ K v R' n') hp ⟨fun b hb => .inl ⟨b, hb, rfl, rfl, rfl⟩, fun u hu => .inr (hq.2.1 u hu), trivial⟩
  rcases hK with ⟨b, hb, rfl, rfl, rfl⟩ | hK
  · have h := fnSem_shift (i := 12) (j := 12 + 1) (c' := 3 - 1) hsem (by decide) (sh_st3 a b) (sh_lv3 a b) (by decide) (by rw [show Tryz.prog.globals.size = 12 from by kernel_rfl]; decide)
    have hs := g_sh3 ⟨a, b⟩
    unfold G_sh3 at hs
    have hw := hs
    unfold seenW at hw
    exact ⟨_, _, _, hq.1 b hb, flatR_rows (cpb_iff.1 hw).2.2, fnSem_seen (A := mem ((S_pop 3).R a) (popN 3)) rfl h hs⟩
  · exact ⟨v, R', n', hK, hfR, hsem⟩
theorem vc_sh4 (q : PbA) : G_sh4 q = ((0 : Int) = 0 ∧ (True ∧ (0 = 0 ∧ 3 = 3 ∧ 3 = 3) ∧ True) ∧ (3 = 3 ∧ 0 = 0 ∧ Z2 ∧ Z2 ∧ Z2 ∧ Z1 q.1.1.1 ∧ Z1 q.1.1.2 ∧ Z1 q.1.1.3 ∧ Z1 q.1.1.4 ∧ Z1 q.1.1.5 ∧ Z2 ∧ 0 = 0 ∧ Z2 ∧ Z2 ∧
Z2 ∧ Z1 q.1.2.1 ∧ Z1 q.1.2.2 ∧ Z1 q.1.2.3 ∧ Z1 q.1.2.4 ∧ Z1 q.1.2.5 ∧ Z2 ∧ QYd0P_1 q.1.3) ∧ (2 = 2 ∧ Z1 q.1.1.6 ∧ Z1 q.1.1.7 ∧ True) ∧ (2 = 2 ∧ Z1 q.1.2.6 ∧ Z1 q.1.2.7 ∧ True) ∧ (2
= 2 ∧ q.1.3.6 + q.2.1 = q.1.3.6 + q.2.1 ∧ q.1.3.7 + q.2.2 = q.1.3.7 + q.2.2 ∧ True) ∧ True ∧ True ∧ True) := by kernel_rfl
theorem g_sh4 (q : PbA) : G_sh4 q := by
  rw [vc_sh4]
  (and_intros<;>first|trivial|rfl)
theorem sh_st4 (a : StA) (b : XyB) : (mem (stR1 4 (popL 4 a b) ++ [(inB 4 + 15, .p .dead)]) (popN 4)).heap.get 12 = some (.row [.slice (some ⟨12 + 1, 0, none⟩) (4 - 1) 4] 81 .own) := by kernel_rfl
theorem sh_lv4 (a : StA) (b : XyB) : (mem (stR1 4 (popL 4 a b) ++ [(inB 4 + 15, .p .dead)]) (popN 4)).heap.get (12 + 1) = some (.row (lvsC (popL 4 a b)) 83 (.grown 4)) := by kernel_rfl
theorem s_pop4 : SpecOK Tryz.prog (S_pop 4).spec := fun a K hp hq => by
  obtain ⟨v, R', n', hK, hfR, hsem⟩ := s_popX4 a (fun v R' n' => (∃ b, popQ a b ∧ v = .int .i64 0 ∧ R' = stR1 4 (popL 4 a b) ++ [(inB 4 + 15, .p .dead)] ∧ n' = popN 4) ∨ K v R' n') hp ⟨fun b hb => .inl ⟨b, hb, rfl, rfl, rfl⟩, fun u hu => .inr (hq.2.1 u hu), trivial⟩
  rcases hK with ⟨b, hb, rfl, rfl, rfl⟩ | hK
  · have h := fnSem_shift (i := 12) (j := 12 + 1) (c' := 4 - 1) hsem (by decide) (sh_st4 a b) (sh_lv4 a b) (by decide) (by rw [show Tryz.prog.globals.size = 12 from by kernel_rfl]; decide)
    have hs := g_sh4 ⟨a, b⟩
    unfold G_sh4 at hs
    have hw := hs
    unfold seenW at hw
    exact ⟨_, _, _, hq.1 b hb, flatR_rows (cpb_iff.1 hw).2.2, fnSem_seen (A := mem ((S_pop 4).R a) (popN 4)) rfl h hs⟩
  · exact ⟨v, R', n', hK, hfR, hsem⟩
end Go.Proofs.YtfkacmmcgncooaaGreatDoor
end

/- Clone of two amounts, of a row or of frozen memory (what is to be shown). -/
section
set_option maxRecDepth 100000
namespace Go.Proofs.YtfkacmmcgncooaaGreatDoor
open Go.Ev
structure ClA where
  b : Nat
  o : Nat
  c : Nat
set_option linter.unusedSectionVars false
variable [Go.Ev.Frozen Tryz.prog]
noncomputable section
def clO (b : XyB) : List (Nat × PO) := [(12 + 1, .f [tgI .i64 b.x, tgI .i64 b.y] 3 (.grown 2))]
def S_cl2 : SpecD where
  f := 61
  α := SA
  args a := [mnS 12 false a.o 2 a.k]
  R a := [(12, .f a.c 3 .gro)]
  n := 12 + 1
  pre a := (2 ≤ a.k ∧ a.o + 2 ≤ a.c.length ∧ FlatL a.c) ∧ ∃ x y, lwin a.c a.o 2 = [tgI .i64 x, tgI .i64 y]
  outs := [⟨XyB, fun a b => lwin a.c a.o 2 = [tgI .i64 b.x, tgI .i64 b.y], fun _ _ => sc (12 + 1) 2, fun _ b => clO b, fun _ _ => 12 + 2, fun v _ => renS (12 + 1) v⟩]
  pick _ _ := 0
  find l A := saK A 12 (lv l 0) fun a r => some (a, r)
def G_cl2 (a : SA) : Prop := fnW Tryz.prog E0 cw0 [] S_cl2.f (S_cl2.args a) (mem (S_cl2.R a) S_cl2.n) (endD Tryz.prog S_cl2 a)
def xlK {β : Type} (v : Value) (k : ClA → Option β) : Option β := match v with
  | .iface _ (.slice (some ⟨b, o, _⟩) _ c) => k ⟨b, o, c⟩
  | _ => none
def S_clX : SpecD where
  f := 61
  α := ClA
  args a := [.iface EXL (.slice (some ⟨a.b, a.o, none⟩) 2 a.c)]
  R _ := []
  n := 12
  pre a := 2 ≤ a.c ∧ ∃ x y : Int, FX Tryz.prog a.b a.o (.int .i64 x) ∧ FX Tryz.prog a.b (a.o + 1) (.int .i64 y)
  outs := [⟨XyB, fun a b => FX Tryz.prog a.b a.o (.int .i64 b.x) ∧ FX Tryz.prog a.b (a.o + 1) (.int .i64 b.y), fun _ _ => sc (12 + 1) 2, fun _ b => clO b, fun _ _ => 12 + 2, fun v _ => renS (12 + 1) v⟩]
  pick _ _ := 0
  find l _ := xlK (lv l 0) fun a => some (a, [])
end
end Go.Proofs.YtfkacmmcgncooaaGreatDoor
end

/- Clone of two amounts is what is told of it. -/
section
set_option maxRecDepth 100000
namespace Go.Proofs.YtfkacmmcgncooaaGreatDoor
open Go.Ev
set_option linter.unusedSectionVars false
variable [Go.Ev.Frozen Tryz.prog]
abbrev QYclP_1 (a0 : XyB) (a1 : List Value) : Prop := FlatL [tgI .i64 a0.1, tgI .i64 a0.2] ∧ [tgI .i64 a0.1, tgI .i64 a0.2] = a1
theorem vc_cl2 (a : SA) : G_cl2 a = ((false = true → (∃ (x0 : XyB), lwin a.5 a.2 2 = [tgI .i64 x0.1, tgI .i64 x0.2] ∧ False ∧ (FlatL [tgI .i64 x0.1, tgI .i64 x0.2] ∧ True) ∧ True)) ∧ (false = false → (false = true →
(0 ≤ 0 → true = true ∧ true = true ∧ 0 ≤ 0 ∧ (∀ (x1 : Nat) (x2 : List Value), x1 = 0 → x2 = lput [] 0 [] → ∃ (x3 : XyB), lwin a.5 a.2 2 = [tgI .i64 x3.1, tgI .i64 x3.2] ∧ (0 = 0 ∧
2 = x1 ∧ 2 = 0) ∧ ((2 = 0 ∧ x2 = []) ∧ QYclP_1 x3 x2) ∧ True)) ∧ (¬(0 ≤ 0) → Few 0 8 ∧ 0 ≤ 0 ∧ (∀ (x4 : Nat) (x5 : List Value), x4 = 0 → x5 = lwin [] 0 0 ++ [] → ∃ (x6 : XyB), lwin
a.5 a.2 2 = [tgI .i64 x6.1, tgI .i64 x6.2] ∧ (0 = 0 ∧ 2 = x4 ∧ 2 = x4) ∧ (2 = x4 ∧ QYclP_1 x6 x5) ∧ True))) ∧ (false = false → a.2 + 2 ≤ List.length a.5 ∧ ∀ (x7 : List Value), x7 =
lwin a.5 a.2 2 → (2 ≤ 0 → true = true ∧ lall oneK x7 = true ∧ 0 + List.length x7 ≤ 0 ∧ (∀ (x8 : Nat) (x9 : List Value), x8 = 2 → x9 = lput [] 0 x7 → ∃ (x10 : XyB), lwin a.5 a.2 2 =
[tgI .i64 x10.1, tgI .i64 x10.2] ∧ (0 = 0 ∧ 2 = x8 ∧ 2 = 0) ∧ ((2 = 0 ∧ x9 = []) ∧ QYclP_1 x10 x9) ∧ True)) ∧ (¬(2 ≤ 0) → Few 2 8 ∧ 0 ≤ 0 ∧ ∀ (x11 : Nat) (x12 : List Value), x11 =
2 → x12 = lwin [] 0 0 ++ x7 → ∃ (x13 : XyB), lwin a.5 a.2 2 = [tgI .i64 x13.1, tgI .i64 x13.2] ∧ (0 = 0 ∧ 2 = x11 ∧ 2 = x11) ∧ (2 = x11 ∧ QYclP_1 x13 x12) ∧ True)))) := by kernel_rfl
theorem fl2t (x y : Int) : FlatL [tgI .i64 x, tgI .i64 y] := fun v hv => by
  rcases List.mem_cons.1 hv with e | hv
  · subst e; rfl
  rcases List.mem_cons.1 hv with e | hv
  · subst e; rfl
  · cases hv
theorem g_cl2 (a : SA) (h1 : 2 ≤ a.k ∧ a.o + 2 ≤ a.c.length ∧ FlatL a.c) (h2 : ∃ x y, lwin a.c a.o 2 = [tgI .i64 x, tgI .i64 y]) : GW (G_cl2 a) := by
  obtain ⟨x, y, hxy⟩ := h2
  obtain ⟨hk, hf, hfl⟩ := h1
  have f := fl2t x y
  refine ⟨?_⟩
  rw [vc_cl2]
  refine ⟨fun h => Bool.noConfusion h, fun _ => ⟨fun h => Bool.noConfusion h, fun _ => ⟨hf, fun xs hxs => ⟨fun h => absurd h (by omega), fun _ => ⟨by unfold Few; omega, Nat.le_refl _, fun n ys hn hy => ?_⟩⟩⟩⟩⟩
  have hn : n = 2 := hn
  have hy : ys = [tgI .i64 x, tgI .i64 y] := by rw [hy, hxs, hxy]; rfl
  subst hn hy
  refine ⟨⟨x, y⟩, hxy, ?_⟩
  (and_intros<;>first|trivial|rfl)
theorem s_cl2 : SpecOK Tryz.prog S_cl2.spec := fun a => specG_at (an := []) envOK cw0_ok fun hp => g_cl2 a hp.1 hp.2
theorem s_clX : SpecOK Tryz.prog S_clX.spec := fun a K hp hq => by
  obtain ⟨hc, x, y, ⟨cs, e, fz, hF, h0⟩, ⟨cs', e', fz', hF', h1⟩⟩ := id hp
  rw [hF] at hF'
  cases hF'
  obtain ⟨c, hcd⟩ : ∃ c, c = List.replicate a.o unk ++ [tgI .i64 x, tgI .i64 y] := ⟨_, rfl⟩
  have hw : lwin c a.o 2 = [tgI .i64 x, tgI .i64 y] := by
    rw [hcd]; unfold lwin
    rw [List.drop_append_of_le_length (by simp), List.drop_of_length_le (by simp)]
    rfl
  have hfl : FlatL c := fun v hv => by
    rw [hcd] at hv
    rcases List.mem_append.1 hv with h | h
    · obtain ⟨-, rfl⟩ := List.mem_replicate.1 h; rfl
    · exact fl2t x y v h
  have hlen : c.length = a.o + 2 := by rw [hcd]; simp
  have hl1 : a.o + 1 < cs.toList.length := by
    have := (Array.getElem?_eq_some_iff.1 h1).1
    simpa using this
  obtain ⟨v, R', n', ⟨hK, hnone⟩, hfR, hsem⟩ := s_cl2 ⟨false, a.o, 2, a.c, c⟩ (fun v R' n' => K v R' n' ∧ (mem R' n').heap.get 12 = none) ⟨⟨hc, by show a.o + 2 ≤ c.length; omega, hfl⟩, x, y, hw⟩
    ⟨fun b hb => ⟨hq.1 b (by
      have hb : lwin c a.o 2 = [tgI .i64 b.x, tgI .i64 b.y] := hb
      rw [hw] at hb
      cases b
      cases hb
      exact ⟨⟨cs, e, fz, hF, h0⟩, ⟨cs, e, fz, hF, h1⟩⟩), rfl⟩, trivial⟩
  refine ⟨v, R', n', hK, hfR, ?_⟩
  have hng : Tryz.prog.globals.size = 12 := by kernel_rfl
  refine fnSem_mat (q := 12) (blk := a.b) (c := c) (e := 3) (H := .e) hsem hnone (by rw [hng]; exact Nat.le_refl _) hF ⟨cs.toList.take (a.o + 2), cs.toList.drop (a.o + 2), (List.take_append_drop _ _).symm, fun σ => ?_⟩ ?_
  · have h2 : cs.toList.take (a.o + 2) = cs.toList.take a.o ++ [.int .i64 x, .int .i64 y] := by
      have g0 : cs.toList[a.o]? = some (.int .i64 x) := by simpa using h0
      have g1 : cs.toList[a.o + 1]? = some (.int .i64 y) := by simpa using h1
      rw [show a.o + 2 = (a.o + 1) + 1 by rfl, List.take_add_one, g1, List.take_add_one, g0]
      simp
    rw [hcd, h2]
    refine VRL.append ?_ (.cons (tgI_vr _ _) (.cons (tgI_vr _ _) .nil))
    have h3 : ∀ (l : List Value) (n : Nat), n ≤ l.length → VRL σ (List.replicate n unk) (l.take n) := by
      intro l n
      induction n generalizing l with
      | zero => intro _; exact .nil
      | succ n ih =>
        intro hn
        cases l with
        | nil => cases hn
        | cons z l => exact .cons (.any trivial) (ih l (by simpa using hn))
    exact h3 _ _ (by omega)
  · intro σ σ' args' hs hq ha
    cases ha with
    | cons a1 a2 =>
      cases a2
      obtain ⟨rfl, -⟩ := a1.ext_inv rfl
      exact .cons (.mn rfl hq) .nil
end Go.Proofs.YtfkacmmcgncooaaGreatDoor
end

/- Tables within tables: one is begun within the innermost one (what is to be shown). -/
section
set_option maxRecDepth 100000
namespace Go.Proofs.YtfkacmmcgncooaaGreatDoor
open Go.Ev
-- keep Go.Proofs.Tryz.prog turnG isG isGx smQ rightQ onG erQ posG rulG allG Go.Ev.FX cells2
structure PuA where
  s : StA
  g : RuA
  p : PoA
  v : Option Addr
  l : Nat
  c : Nat
structure Pu2 where
  s : StA
  g : RuA
  p : PoA
  b : Nat
  o : Nat
  c : Nat
structure PuO where
  s : StA
  g : RuA
  p : PoA
  x : Int
  y : Int
def StA.sub (a : StA) (b : XyB) : OuA := a.p.ou (a.x - b.x) (a.y - b.y)
def onG (g : RuA) (p : PoA) : Prop := ∃ k j, isG g p k j ∧ 0 ≤ turnG k j
def fitsQ (a : StA) (b : XyB) : Prop := onG a.g a.p ∧ (0 ≤ b.x ∧ b.x ≤ a.x) ∧ 0 ≤ b.y ∧ b.y ≤ a.y
def erQ (n : Int) : Prop := n = 2 ∨ n = 3 ∨ n = 10 ∨ n = 21
set_option linter.unusedSectionVars false
variable [Go.Ev.Frozen Tryz.prog]
noncomputable section
def pushL (d e N : Nat) (a : StA) (p : PoA) (b : XyB) : List LvV := ouL d a ++ [loV (inB d) (a.sub b), ⟨e, N + 1, N + 4, p.ou b.x b.y⟩]
def pushN (d N : Nat) (A : AW) : List (Nat × Nat) := let j := blI (lv (rowO A 12) 0); let c := rowO A j
  [(N, j), (N + 1, blI (lv c (10 * d + 1))), (N + 2, blI (lv c (10 * d + 2))), (N + 3, blI (lv c (10 * d + 3))), (N + 4, blI (lv c (10 * d + 9)))]
def pickZ (v : Value) : Nat := match v with
  | .int _ z => Int.rec (fun n => Bool.rec 1 0 (Nat.beq n 0)) (fun _ => 1) z
  | _ => 1
def pushR (d : Nat) (a : StA) (g : RuA) (p : PoA) : List (Nat × PO) := memR d a ++ (ruR g (inB d + 16) ++ (poR p (inB d + 28) ++ [(2, .f cells2 356 .ro)]))
def S_push2 (d : Nat) : SpecD where
  f := 14
  α := Pu2
  args a := [.pointer (some ⟨12, 0, none⟩), .pointer (some ⟨inB d + 16, 0, none⟩), poT a.p (inB d + 28), .iface EXL (.slice (some ⟨a.b, a.o, none⟩) 2 a.c)]
  R a := pushR d a.s a.g a.p
  n := inB d + 31
  pre a := (isGx a.s.g a.s.p ∧ isGx a.g a.p) ∧ (smQ a.s.x ∧ smQ a.s.y) ∧ 2 ≤ a.c ∧ ∃ x y : Int, FX Tryz.prog a.b a.o (.int .i64 x) ∧ FX Tryz.prog a.b (a.o + 1) (.int .i64 y)
  outs := [⟨XyB, fun a b => (FX Tryz.prog a.b a.o (.int .i64 b.x) ∧ FX Tryz.prog a.b (a.o + 1) (.int .i64 b.y)) ∧ fitsQ a.s b, fun _ _ => .int .i64 0,
      fun a b => stR 12 (inB d + 31) (d + 1) (pushL d (inB d + 16) (inB d + 31) a.s a.p b) ++ (poR a.p (inB d + 32) ++ [(12 + 1, .p .dead)]), fun _ _ => inB d + 36, fun _ A => pushN d (inB d + 31) A⟩,
    ⟨TnB, fun _ b => erQ b.k, fun _ b => tgI .i64 b.k, fun a _ => stR 12 (12 + 1) d (stL d a.s), fun _ _ => inB d + 31, fun _ _ => []⟩]
  pick v _ := pickZ v
  find _ _ := none
def cwPush : CW := cwX (fun c => cwD Tryz.prog S_gcheck (cwD Tryz.prog S_gturn (cwD Tryz.prog S_gclone (cwE Tryz.prog S_clX c)))) 8
def G_push21 (a : Pu2) : Prop := fnW Tryz.prog E0 cwPush [] (S_push2 1).f ((S_push2 1).args a) (mem ((S_push2 1).R a) (S_push2 1).n) (endD Tryz.prog (S_push2 1) a)
def G_push22 (a : Pu2) : Prop := fnW Tryz.prog E0 cwPush [] (S_push2 2).f ((S_push2 2).args a) (mem ((S_push2 2).R a) (S_push2 2).n) (endD Tryz.prog (S_push2 2) a)
def G_push23 (a : Pu2) : Prop := fnW Tryz.prog E0 cwPush [] (S_push2 3).f ((S_push2 3).args a) (mem ((S_push2 3).R a) (S_push2 3).n) (endD Tryz.prog (S_push2 3) a)
def S_pushN (d : Nat) : SpecD where
  f := 14
  α := PuA
  args a := [.pointer (some ⟨12, 0, none⟩), .pointer (some ⟨inB d + 16, 0, none⟩), poT a.p (inB d + 28), .iface EXT (.slice a.v a.l a.c)]
  R a := pushR d a.s a.g a.p
  n := inB d + 31
  pre a := (isGx a.s.g a.s.p ∧ isGx a.g a.p) ∧ a.l ≠ 2
  outs := [⟨TnB, fun _ b => erQ b.k, fun _ b => tgI .i64 b.k, fun a _ => stR 12 (12 + 1) d (stL d a.s), fun _ _ => inB d + 31, fun _ _ => []⟩]
  pick _ _ := 0
  find _ _ := none
def cwPushN : CW := cwX (fun c => cwNo [98] (cwD Tryz.prog S_gcheck (cwD Tryz.prog S_gturn c))) 8
def G_pushN1 (a : PuA) : Prop := fnW Tryz.prog E0 cwPushN [] (S_pushN 1).f ((S_pushN 1).args a) (mem ((S_pushN 1).R a) (S_pushN 1).n) (endD Tryz.prog (S_pushN 1) a)
def G_pushN2 (a : PuA) : Prop := fnW Tryz.prog E0 cwPushN [] (S_pushN 2).f ((S_pushN 2).args a) (mem ((S_pushN 2).R a) (S_pushN 2).n) (endD Tryz.prog (S_pushN 2) a)
def G_pushN3 (a : PuA) : Prop := fnW Tryz.prog E0 cwPushN [] (S_pushN 3).f ((S_pushN 3).args a) (mem ((S_pushN 3).R a) (S_pushN 3).n) (endD Tryz.prog (S_pushN 3) a)
end
end Go.Proofs.YtfkacmmcgncooaaGreatDoor
end
