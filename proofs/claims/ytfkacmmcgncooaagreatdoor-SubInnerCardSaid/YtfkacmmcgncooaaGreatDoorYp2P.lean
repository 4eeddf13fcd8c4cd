/- Tables within tables: one is begun as is told. -/
import Derived.Test.YtfkacmmcgncooaaGreatDoorYp1
set_option maxRecDepth 100000
namespace Go.Proofs.YtfkacmmcgncooaaGreatDoor
open Go.Ev
set_option linter.unusedSectionVars false
variable [Go.Ev.Frozen Tryz.prog]
noncomputable section
def W_G_push21_0 : Option AO := some (AO.row [Zp 13 0] 85 Md.own)
def W_G_push21_1 : Pu2 → Option AO := fun (a : Pu2) => some (AO.row ([Zp 14 0, sc 26 2, sc 27 2, sc 28 2, tgI .i64 a.1.5.4, tgI .i64 a.1.5.5, tgI .i64 a.1.5.6, tgI .i64 a.1.5.7,
 tgI .u64 a.1.5.8, sc 29 2] ++ []) 83 (Md.grown 1))
def W_G_push21_2 : Pu2 → Option AO := fun (a : Pu2) => some (AO.row [tgI .i64 a.1.6, tgI .i64 a.1.7] 3 (Md.grown 2))
def W_G_push21_3 : Pu2 → Option Addr := fun (a : Pu2) => some (Addr.mk a.4 a.5 none)
def W_G_push21_4 : Nat → Nat → Option Addr := fun (x9 x10 : Nat) => some (Addr.mk x9 x10 none)
def W_G_push21_5 : Pu2 → Option AO := fun (a : Pu2) => some (AO.row [Zp 30 0, sc 42 2, sc 43 2, sc 44 2, tgI .i64 a.3.4, tgI .i64 a.3.5, tgI .i64 a.3.6, tgI .i64 a.3.7, tgI .u64
 a.3.8, Value.iface 1000000011 (Value.slice (some (Addr.mk a.4 a.5 none)) 2 a.6)] 83 Md.own)
def W_G_push21_6 : Option AO := some (AO.row [Zp 12 0] 27 Md.own)
def W_G_push21_7 : Option AO := some (AO.row [sc 13 1] 81 Md.own)
def W_G_push22_0 : Option AO := some (AO.row [Zp 13 10] 85 Md.own)
def W_G_push22_1 : Pu2 → Option AO := fun (a : Pu2) => some (AO.row ([Zp 14 0, sc 26 2, sc 27 2, sc 28 2, tgI .i64 a.1.1.1, tgI .i64 a.1.1.2, tgI .i64 a.1.1.3, tgI .i64 a.1.1.4,
 tgI .u64 a.1.1.5, sc 29 2] ++ ([Zp 30 0, sc 42 2, sc 43 2, sc 44 2, tgI .i64 a.1.5.4, tgI .i64 a.1.5.5, tgI .i64 a.1.5.6, tgI .i64 a.1.5.7, tgI .u64 a.1.5.8, sc 45 2] ++ [])) 83
 (Md.grown 2))
def W_G_push22_2 : Pu2 → Option AO := fun (a : Pu2) => some (AO.row [tgI .i64 a.1.6, tgI .i64 a.1.7] 3 (Md.grown 2))
def W_G_push22_3 : Pu2 → Option Addr := fun (a : Pu2) => some (Addr.mk a.4 a.5 none)
def W_G_push22_4 : Nat → Nat → Option Addr := fun (x9 x10 : Nat) => some (Addr.mk x9 x10 none)
def W_G_push22_5 : Pu2 → Option AO := fun (a : Pu2) => some (AO.row [Zp 46 0, sc 58 2, sc 59 2, sc 60 2, tgI .i64 a.3.4, tgI .i64 a.3.5, tgI .i64 a.3.6, tgI .i64 a.3.7, tgI .u64
 a.3.8, Value.iface 1000000011 (Value.slice (some (Addr.mk a.4 a.5 none)) 2 a.6)] 83 Md.own)
def W_G_push22_6 : Option AO := some (AO.row [Zp 12 0] 27 Md.own)
def W_G_push22_7 : Option AO := some (AO.row [sc 13 2] 81 Md.own)
def W_G_push23_0 : Option AO := some (AO.row [Zp 13 20] 85 Md.own)
def W_G_push23_1 : Pu2 → Option AO := fun (a : Pu2) => some (AO.row ([Zp 14 0, sc 26 2, sc 27 2, sc 28 2, tgI .i64 a.1.1.1, tgI .i64 a.1.1.2, tgI .i64 a.1.1.3, tgI .i64 a.1.1.4,
 tgI .u64 a.1.1.5, sc 29 2] ++ ([Zp 30 0, sc 42 2, sc 43 2, sc 44 2, tgI .i64 a.1.2.1, tgI .i64 a.1.2.2, tgI .i64 a.1.2.3, tgI .i64 a.1.2.4, tgI .u64 a.1.2.5, sc 45 2] ++ ([Zp 46 0,
 sc 58 2, sc 59 2, sc 60 2, tgI .i64 a.1.5.4, tgI .i64 a.1.5.5, tgI .i64 a.1.5.6, tgI .i64 a.1.5.7, tgI .u64 a.1.5.8, sc 61 2] ++ []))) 83 (Md.grown 3))
def W_G_push23_2 : Pu2 → Option AO := fun (a : Pu2) => some (AO.row [tgI .i64 a.1.6, tgI .i64 a.1.7] 3 (Md.grown 2))
def W_G_push23_3 : Pu2 → Option Addr := fun (a : Pu2) => some (Addr.mk a.4 a.5 none)
def W_G_push23_4 : Nat → Nat → Option Addr := fun (x9 x10 : Nat) => some (Addr.mk x9 x10 none)
def W_G_push23_5 : Pu2 → Option AO := fun (a : Pu2) => some (AO.row [Zp 62 0, sc 74 2, sc 75 2, sc 76 2, tgI .i64 a.3.4, tgI .i64 a.3.5, tgI .i64 a.3.6, tgI .i64 a.3.7, tgI .u64
 a.3.8, Value.iface 1000000011 (Value.slice (some (Addr.mk a.4 a.5 none)) 2 a.6)] 83 Md.own)
def W_G_push23_6 : Option AO := some (AO.row [Zp 12 0] 27 Md.own)
def W_G_push23_7 : Option AO := some (AO.row [sc 13 3] 81 Md.own)
def W_G_pushN1_0 : Option AO := some (AO.row [Zp 13 0] 85 Md.own)
def W_G_pushN1_1 : PuA → Option AO := fun (a : PuA) => some (AO.row ([Zp 14 0, sc 26 2, sc 27 2, sc 28 2, tgI .i64 a.1.5.4, tgI .i64 a.1.5.5, tgI .i64 a.1.5.6, tgI .i64 a.1.5.7,
 tgI .u64 a.1.5.8, sc 29 2] ++ []) 83 (Md.grown 1))
def W_G_pushN1_2 : PuA → Option AO := fun (a : PuA) => some (AO.row [tgI .i64 a.1.6, tgI .i64 a.1.7] 3 (Md.grown 2))
def W_G_pushN2_0 : Option AO := some (AO.row [Zp 13 10] 85 Md.own)
def W_G_pushN2_1 : PuA → Option AO := fun (a : PuA) => some (AO.row ([Zp 14 0, sc 26 2, sc 27 2, sc 28 2, tgI .i64 a.1.1.1, tgI .i64 a.1.1.2, tgI .i64 a.1.1.3, tgI .i64 a.1.1.4,
 tgI .u64 a.1.1.5, sc 29 2] ++ ([Zp 30 0, sc 42 2, sc 43 2, sc 44 2, tgI .i64 a.1.5.4, tgI .i64 a.1.5.5, tgI .i64 a.1.5.6, tgI .i64 a.1.5.7, tgI .u64 a.1.5.8, sc 45 2] ++ [])) 83
 (Md.grown 2))
def W_G_pushN2_2 : PuA → Option AO := fun (a : PuA) => some (AO.row [tgI .i64 a.1.6, tgI .i64 a.1.7] 3 (Md.grown 2))
def W_G_pushN3_0 : Option AO := some (AO.row [Zp 13 20] 85 Md.own)
def W_G_pushN3_1 : PuA → Option AO := fun (a : PuA) => some (AO.row ([Zp 14 0, sc 26 2, sc 27 2, sc 28 2, tgI .i64 a.1.1.1, tgI .i64 a.1.1.2, tgI .i64 a.1.1.3, tgI .i64 a.1.1.4,
 tgI .u64 a.1.1.5, sc 29 2] ++ ([Zp 30 0, sc 42 2, sc 43 2, sc 44 2, tgI .i64 a.1.2.1, tgI .i64 a.1.2.2, tgI .i64 a.1.2.3, tgI .i64 a.1.2.4, tgI .u64 a.1.2.5, sc 45 2] ++ ([Zp 46 0,
 sc 58 2, sc 59 2, sc 60 2, tgI .i64 a.1.5.4, tgI .i64 a.1.5.5, tgI .i64 a.1.5.6, tgI .i64 a.1.5.7, tgI .u64 a.1.5.8, sc 61 2] ++ []))) 83 (Md.grown 3))
def W_G_pushN3_2 : PuA → Option AO := fun (a : PuA) => some (AO.row [tgI .i64 a.1.6, tgI .i64 a.1.7] 3 (Md.grown 2))
end
theorem fx_int {b o : Nat} {k : IntKind} {x y : Int} (h : FX Tryz.prog b o (.int k x)) (h' : FX Tryz.prog b o (.int k y)) : x = y := by
  obtain ⟨cs, e, fz, h1, h2⟩ := h
  obtain ⟨cs', e', fz', h3, h4⟩ := h'
  rw [h1] at h3
  cases h3
  rw [h2] at h4
  cases h4
  rfl
set_option maxHeartbeats 3200000 in
abbrev QYp2P_13 (a0 : PoA) : Prop := (Z2 ∧ Z2 ∧ Z2 ∧ Z1 a0.4 ∧ Z1 a0.5 ∧ Z1 a0.6 ∧ Z1 a0.7 ∧ Z1 a0.8 ∧ True) ∧ True
abbrev QYp2P_21 (a0 : RuA) : Prop := True ∧ True ∧ Z2 ∧ Z1 a0.19.1 ∧ Z1 a0.19.2 ∧ Z1 a0.19.3 ∧ Z1 a0.19.4 ∧ Z1 a0.19.5 ∧ Z1 a0.19.6 ∧ Z1 a0.19.7 ∧ Z1 a0.19.8 ∧ 0 = 0 ∧ (0 = 0 ∧ 1 =
 1 ∧ 1 = 1) ∧ Z2 ∧ True
abbrev QYp2P_22 : Prop := True ∧ FlatL [Value.int .i64 1, Value.int .i64 1] ∧ [Value.int .i64 1, Value.int .i64 1] = [Value.int .i64 1, Value.int .i64 1]
abbrev QYp2P_14 (a0 : RuA) : Prop := True ∧ (2 : Int) = 2 ∧ (2 : Int) = 2 ∧ Z2 ∧ (0 = 0 ∧ 1 = 1 ∧ 1 = 1) ∧ (0 = 0 ∧ Z1 a0.1 ∧ Z1 a0.1) ∧ (0 = 0 ∧ Z1 a0.2 ∧ Z1 a0.2) ∧ (0 = 0 ∧ Z1
 a0.3 ∧ Z1 a0.3) ∧ (0 = 0 ∧ Z1 a0.4 ∧ Z1 a0.4) ∧ (0 = 0 ∧ Z1 a0.5 ∧ Z1 a0.5) ∧ Z1 a0.6 ∧ Z1 a0.7 ∧ Z1 a0.8 ∧ Z1 a0.9 ∧ Z1 a0.10 ∧ True
abbrev QYp2P_23 : Prop := True ∧ FlatL [Value.int .i32 0, Value.int .i32 0] ∧ [Value.int .i32 0, Value.int .i32 0] = [Value.int .i32 0, Value.int .i32 0]
abbrev QYp2P_1 (a0 : StA) : Prop := (0 = 0 ∧ QYp2P_13 a0.5) ∧ QYp2P_21 a0.4 ∧ QYp2P_22 ∧ QYp2P_14 a0.4 ∧ QYp2P_23 ∧ ZF a0.4.11 ∧ ZF a0.4.12 ∧ ZF a0.4.13 ∧ ZF a0.4.14 ∧ ZF a0.4.15 ∧
 ZF a0.4.16 ∧ ZF a0.4.17 ∧ ZF a0.4.18 ∧ ZF a0.5.1 ∧ ZF a0.5.2 ∧ ZF a0.5.3 ∧ ZF cells2 ∧ True
abbrev QYp2P_2 (a0 : PoA) (a1 : RuA) : Prop := (0 = 0 ∧ QYp2P_13 a0) ∧ QYp2P_21 a1 ∧ QYp2P_22 ∧ QYp2P_14 a1 ∧ QYp2P_23 ∧ ZF a1.11 ∧ ZF a1.12 ∧ ZF a1.13 ∧ ZF a1.14 ∧ ZF a1.15 ∧ ZF
 a1.16 ∧ ZF a1.17 ∧ ZF a1.18 ∧ ZF a0.1 ∧ ZF a0.2 ∧ ZF a0.3 ∧ True
abbrev QYp2P_16 (a0 : PoA) : Prop := 0 = 0 ∧ Z2 ∧ Z2 ∧ Z2 ∧ Z1 a0.4 ∧ Z1 a0.5 ∧ Z1 a0.6 ∧ Z1 a0.7 ∧ Z1 a0.8 ∧ Z2 ∧ True
abbrev QYp2P_3 (a0 : StA) : Prop := (True ∧ (0 = 0 ∧ 3 = 3 ∧ 3 = 3) ∧ True) ∧ (3 = 3 ∧ 0 = 0 ∧ Z2 ∧ Z2 ∧ Z2 ∧ Z1 a0.1.1 ∧ Z1 a0.1.2 ∧ Z1 a0.1.3 ∧ Z1 a0.1.4 ∧ Z1 a0.1.5 ∧ Z2 ∧ 0 = 0
 ∧ Z2 ∧ Z2 ∧ Z2 ∧ Z1 a0.2.1 ∧ Z1 a0.2.2 ∧ Z1 a0.2.3 ∧ Z1 a0.2.4 ∧ Z1 a0.2.5 ∧ Z2 ∧ QYp2P_16 a0.5) ∧ (2 = 2 ∧ Z1 a0.1.6 ∧ Z1 a0.1.7 ∧ True) ∧ (2 = 2 ∧ Z1 a0.2.6 ∧ Z1 a0.2.7 ∧ True) ∧
 (2 = 2 ∧ Z1 a0.6 ∧ Z1 a0.7 ∧ True) ∧ True
abbrev QYp2P_4 (a0 : StA) : Prop := (True ∧ Z2 ∧ True) ∧ (2 = 2 ∧ 0 = 0 ∧ Z2 ∧ Z2 ∧ Z2 ∧ Z1 a0.1.1 ∧ Z1 a0.1.2 ∧ Z1 a0.1.3 ∧ Z1 a0.1.4 ∧ Z1 a0.1.5 ∧ Z2 ∧ QYp2P_16 a0.5) ∧ (2 = 2 ∧
 Z1 a0.1.6 ∧ Z1 a0.1.7 ∧ True) ∧ (2 = 2 ∧ Z1 a0.6 ∧ Z1 a0.7 ∧ True) ∧ True
abbrev QYp2P_24 : Prop := True ∧ True ∧ True ∧ True ∧ True ∧ True ∧ True
abbrev QYp2P_5 : Prop := True ∧ True ∧ True ∧ True ∧ QYp2P_24
abbrev QYp2P_6 (a0 : StA) : Prop := (True ∧ (0 = 0 ∧ 1 = 1 ∧ 1 = 1) ∧ True) ∧ (1 = 1 ∧ QYp2P_16 a0.5) ∧ (2 = 2 ∧ Z1 a0.6 ∧ Z1 a0.7 ∧ True) ∧ True
abbrev QYp2P_7 (a0 : Int) : Prop := a0 = 2 ∨ a0 = 3 ∨ a0 = 10 ∨ a0 = 21
abbrev QYp2P_8 (a0 : Nat) (a1 : Nat) (a2 : Int) : Prop := FX Proofs.Tryz.prog a0 (Nat.add a1 0) (Value.int .i64 a2)
abbrev QYp2P_9 (a0 : Nat) (a1 : Nat) (a2 : Int) (a3 : Int) : Prop := FX Proofs.Tryz.prog a0 a1 (Value.int .i64 a2) ∧ FX Proofs.Tryz.prog a0 (a1 + 1) (Value.int .i64 a3)
abbrev QYp2P_10 (a0 : Pu2) : Prop := 0 = 0 ∧ Z2 ∧ Z2 ∧ Z2 ∧ Z1 a0.1.5.4 ∧ Z1 a0.1.5.5 ∧ Z1 a0.1.5.6 ∧ Z1 a0.1.5.7 ∧ Z1 a0.1.5.8 ∧ Z2 ∧ QYp2P_16 a0.3
abbrev QYp2P_11 : Prop := (0 : Int) ≤ (0 : Int) ∧ (0 : Int) < (2 : Int)
abbrev QYp2P_12 : Prop := (0 : Int) ≤ (1 : Int) ∧ (1 : Int) < (2 : Int)
abbrev QYp2P_15 (a0 : Pu2) : Prop := (Value.slice (some (Addr.mk a0.4 a0.5 none)) 2 a0.6 = Value.slice (some (Addr.mk a0.4 a0.5 none)) 2 a0.6 ∧ True) ∧ True
abbrev QYp2P_17 (a0 : Pu2) (a1 : XyB) (a2 : Int) (a3 : Int) (a4 : XyB) : Prop := (2 = 2 ∧ a0.1.6 - a1.1 = a2 ∧ a0.1.7 - a1.2 = a3 ∧ True) ∧ (2 = 2 ∧ a1.1 = a4.1 ∧ a1.2 = a4.2 ∧
 True) ∧ ZF a0.3.1 ∧ ZF a0.3.2 ∧ ZF a0.3.3 ∧ True ∧ True
abbrev QYp2P_18 (a0 : StA) (a1 : Int) : Prop := ∃ (b0 b1 : Nat), isG a0.4 a0.5 b0 b1 ∧ a1 = turnG b0 b1
abbrev QYp2P_19 (a0 : PoA) : Prop := True ∧ ∃ (b0 b1 : Nat), (b0, b1) ∈ allG ∧ PoA.mk a0.1 a0.2 a0.3 a0.4 a0.5 a0.6 a0.7 a0.8 = posG b0 b1
abbrev QYp2P_20 (a0 : Pu2) (a1 : XyB) : Prop := QYp2P_9 a0.4 a0.5 a1.1 a1.2 ∧ onG a0.1.4 a0.1.5 ∧ (0 ≤ a1.1 ∧ a1.1 ≤ a0.1.6) ∧ 0 ≤ a1.2 ∧ a1.2 ≤ a0.1.7
abbrev QYp2P_25 (a0 : StA) : Prop := ∃ (b0 : TnB), QYp2P_7 b0.1 ∧ b0.1 = 2 ∧ QYp2P_6 a0
abbrev QYp2P_26 (a0 : StA) : Prop := ∃ (b0 : TnB), QYp2P_7 b0.1 ∧ b0.1 = 2 ∧ QYp2P_4 a0
abbrev QYp2P_27 (a0 : StA) : Prop := ∃ (b0 : TnB), QYp2P_7 b0.1 ∧ b0.1 = 2 ∧ QYp2P_3 a0
theorem vc_push21 (a : Pu2) : G_push21 a = ((True ∧ True ∧ QYp2P_5) ∧ (True ∧ (∃ (x0 x1 : Nat), isG a.2 a.3 x0 x1)) ∧ QYp2P_2 a.3 a.2 ∧ (∀ (_ : Unit), True → (True ∧ True ∧ (W_G_push21_0 = W_G_push21_0 ∧ True) ∧ (True ∧
True) ∧ (True ∧ True) ∧ (W_G_push21_1 a = W_G_push21_1 a ∧ True) ∧ (W_G_push21_2 a = W_G_push21_2 a ∧ True) ∧ True ∧ True ∧ True ∧ True) ∧ (True ∧ (∃ (x3 x4 : Nat), isG a.1.4 a.1.5
x3 x4)) ∧ QYp2P_1 a.1 ∧ (∀ (x5 : TnB), QYp2P_18 a.1 x5.1 → (x5.1 < 0 → (True ∧ QYp2P_5) ∧ (∃ (x8 : TnB), QYp2P_7 x8.1 ∧ x8.1 = 10 ∧ QYp2P_6 a.1)) ∧ (¬(x5.1 < 0) → (True ∧ QYp2P_5)
∧ QYp2P_5 ∧ QYp2P_11 ∧ ∃ (x9 x10 : Nat), W_G_push21_3 a = W_G_push21_4 x9 x10 ∧ ∀ (x11 : Nat), x11 = x10 + 0 → ∃ (x12 : Int), QYp2P_8 x9 x11 x12 ∧ ((0 : Int) ≤ x12 → (x12 ≤
(1125899906842624 : Int) → QYp2P_12 ∧ (∃ (x13 x14 : Nat), W_G_push21_3 a = W_G_push21_4 x13 x14 ∧ ∀ (x15 : Nat), x15 = x14 + 1 → ∃ (x16 : Int), QYp2P_8 x13 x15 x16 ∧ ((0 : Int) ≤
x16 → (x16 ≤ (1125899906842624 : Int) → QYp2P_11 ∧ (∃ (x17 x18 : Nat), W_G_push21_3 a = W_G_push21_4 x17 x18 ∧ ∀ (x19 : Nat), x19 = x18 + 0 → ∃ (x20 : Int), QYp2P_8 x17 x19 x20 ∧
(a.1.6 < x20 → (∃ (x21 : TnB), QYp2P_7 x21.1 ∧ x21.1 = 21 ∧ QYp2P_6 a.1)) ∧ (¬(a.1.6 < x20) → QYp2P_12 ∧ ∃ (x22 x23 : Nat), W_G_push21_3 a = W_G_push21_4 x22 x23 ∧ ∀ (x24 : Nat),
x24 = x23 + 1 → ∃ (x25 : Int), QYp2P_8 x22 x24 x25 ∧ (a.1.7 < x25 → (∃ (x26 : TnB), QYp2P_7 x26.1 ∧ x26.1 = 21 ∧ QYp2P_6 a.1)) ∧ (¬(a.1.7 < x25) → QYp2P_11 ∧ ∃ (x27 x28 : Nat),
W_G_push21_3 a = W_G_push21_4 x27 x28 ∧ ∀ (x29 : Nat), x29 = x28 + 0 → ∃ (x30 : Int), QYp2P_8 x27 x29 x30 ∧ ∀ (x31 : Int), x31 = IntKind.wrap .i64 (a.1.6 - x30) → QYp2P_12 ∧ ∃ (x32
x33 : Nat), W_G_push21_3 a = W_G_push21_4 x32 x33 ∧ ∀ (x34 : Nat), x34 = x33 + 1 → ∃ (x35 : Int), QYp2P_8 x32 x34 x35 ∧ ∀ (x36 : Int), x36 = IntKind.wrap .i64 (a.1.7 - x35) →
QYp2P_19 a.3 ∧ (QYp2P_13 a.3 ∧ ZF a.3.1 ∧ ZF a.3.2 ∧ ZF a.3.3 ∧ True) ∧ (∀ (_ : Unit), True → (True ∧ 2 ≤ a.6 ∧ (∃ (x40 x41 : Int), QYp2P_9 a.4 a.5 x40 x41)) ∧ QYp2P_15 a ∧ (∀ (x42
: XyB), QYp2P_9 a.4 a.5 x42.1 x42.2 → ((True ∧ True ∧ True) ∧ (True ∧ True ∧ True) ∧ (True ∧ True ∧ True) ∧ (W_G_push21_5 a = W_G_push21_5 a ∧ W_G_push21_5 a = W_G_push21_5 a ∧
True) ∧ True ∧ True ∧ True ∧ True ∧ True ∧ (True ∧ True) ∧ (True ∧ True) ∧ (True ∧ True) ∧ (W_G_push21_5 a = W_G_push21_5 a ∧ True) ∧ True ∧ True ∧ True ∧ True) ∧ ((W_G_push21_6 =
W_G_push21_6 ∧ W_G_push21_6 = W_G_push21_6 ∧ W_G_push21_6 = W_G_push21_6 ∧ True) ∧ (W_G_push21_6 = W_G_push21_6 ∧ W_G_push21_6 = W_G_push21_6 ∧ True) ∧ (True ∧ True ∧ True) ∧ (True
∧ True ∧ True) ∧ (W_G_push21_7 = W_G_push21_7 ∧ W_G_push21_7 = W_G_push21_7 ∧ True) ∧ QYp2P_24) ∧ ∃ (x43 : XyB), QYp2P_20 a x43 ∧ (0 : Int) = 0 ∧ (True ∧ Z2 ∧ True) ∧ (2 = 2 ∧
QYp2P_10 a) ∧ QYp2P_17 a x43 x31 x36 x42) ∧ True) ∧ True)))) ∧ (¬(x16 ≤ (1125899906842624 : Int)) → QYp2P_25 a.1)) ∧ (¬((0 : Int) ≤ x16) → QYp2P_25 a.1))) ∧ (¬(x12 ≤
(1125899906842624 : Int)) → QYp2P_25 a.1)) ∧ (¬((0 : Int) ≤ x12) → QYp2P_25 a.1))) ∧ True) ∧ True) := by kernel_rfl
set_option maxHeartbeats 3200000 in
theorem vc_pushN1 (a : PuA) : G_pushN1 a = ((True ∧ True ∧ QYp2P_5) ∧ (True ∧ (∃ (x0 x1 : Nat), isG a.2 a.3 x0 x1)) ∧ QYp2P_2 a.3 a.2 ∧ (∀ (_ : Unit), True → (True ∧ True ∧ (W_G_pushN1_0 = W_G_pushN1_0 ∧ True) ∧ (True ∧
True) ∧ (True ∧ True) ∧ (W_G_pushN1_1 a = W_G_pushN1_1 a ∧ True) ∧ (W_G_pushN1_2 a = W_G_pushN1_2 a ∧ True) ∧ True ∧ True ∧ True ∧ True) ∧ (True ∧ (∃ (x3 x4 : Nat), isG a.1.4 a.1.5
x3 x4)) ∧ QYp2P_1 a.1 ∧ (∀ (x5 : TnB), QYp2P_18 a.1 x5.1 → (x5.1 < 0 → (True ∧ QYp2P_5) ∧ (∃ (x8 : TnB), QYp2P_7 x8.1 ∧ x8.1 = 10 ∧ QYp2P_6 a.1)) ∧ (¬(x5.1 < 0) → (True ∧ QYp2P_5)
∧ ∀ (x9 : Int), x9 = (↑a.5 : Int) → (x9 = (2 : Int) → QYp2P_5 ∧ False) ∧ (¬(x9 = (2 : Int)) → QYp2P_5 ∧ ∃ (x10 : TnB), QYp2P_7 x10.1 ∧ x10.1 = 3 ∧ QYp2P_6 a.1))) ∧ True) ∧ True) := by kernel_rfl
set_option maxHeartbeats 1600000 in
theorem g_push21 (a : Pu2) (hp : isGx a.s.g a.s.p ∧ isGx a.g a.p) (hs : smQ a.s.x ∧ smQ a.s.y) (hc : 2 ≤ a.c) (hx : ∃ x y : Int, FX Tryz.prog a.b a.o (.int .i64 x) ∧ FX Tryz.prog a.b (a.o + 1) (.int .i64 y)) : GW (G_push21 a) := by
  obtain ⟨⟨k, j, hi⟩, k2, j2, hi2⟩ := hp
  obtain ⟨⟨s1, s2⟩, s3, s4⟩ := hs
  obtain ⟨x, y, hx, hy⟩ := hx
  obtain ⟨f1, f2, f3, f4, f5, f6, f7, f8, f9, f10, f11⟩ := flG_of hi
  obtain ⟨g1, g2, g3, g4, g5, g6, g7, g8, g9, g10, g11⟩ := flG_of hi2
  have f12 := fl11
  have f13 := fl00
  have f14 := glO
  refine ⟨?_⟩
  rw [vc_push21]
  (repeat(apply And.intro;focus(and_intros<;>first|trivial|rfl)))
  refine ⟨⟨trivial, k2, j2, hi2⟩, by (and_intros<;>first|trivial|rfl), fun _ _ => ?_, trivial⟩
  (repeat(apply And.intro;focus(and_intros<;>first|trivial|rfl)))
  refine ⟨⟨trivial, k, j, hi⟩, by (and_intros<;>first|trivial|rfl), fun t ht => ?_, trivial⟩
  obtain ⟨k', j', hi', ht⟩ := ht
  obtain ⟨rfl, rfl⟩ := isG_inj hi hi'
  refine ⟨fun h0 => ?_, fun h0 => ?_⟩
  · (repeat(apply And.intro;focus(and_intros<;>first|trivial|rfl)))
    refine ⟨⟨10⟩, by first | exact .inl rfl | exact .inr (.inl rfl) | exact .inr (.inr (.inl rfl)) | exact .inr (.inr (.inr rfl)), ?_⟩
    (and_intros<;>first|trivial|rfl)
  (repeat(apply And.intro;focus(and_intros<;>first|trivial|rfl)))
  refine ⟨a.b, a.o, rfl, fun q e => ⟨x, by rw [e]; exact hx, ?_⟩⟩
  refine ⟨fun p1 => ⟨fun p2 => ?_, fun _ => ?_⟩, fun _ => ?_⟩
  rotate_left
  · (repeat(apply And.intro;focus(and_intros<;>first|trivial|rfl)))
    refine ⟨⟨2⟩, by first | exact .inl rfl | exact .inr (.inl rfl) | exact .inr (.inr (.inl rfl)) | exact .inr (.inr (.inr rfl)), ?_⟩
    (and_intros<;>first|trivial|rfl)
  · (repeat(apply And.intro;focus(and_intros<;>first|trivial|rfl)))
    refine ⟨⟨2⟩, by first | exact .inl rfl | exact .inr (.inl rfl) | exact .inr (.inr (.inl rfl)) | exact .inr (.inr (.inr rfl)), ?_⟩
    (and_intros<;>first|trivial|rfl)
  (repeat(apply And.intro;focus(and_intros<;>first|trivial|rfl)))
  refine ⟨a.b, a.o, rfl, fun q e => ⟨y, by rw [e]; exact hy, ?_⟩⟩
  refine ⟨fun p3 => ⟨fun p4 => ?_, fun _ => ?_⟩, fun _ => ?_⟩
  rotate_left
  · (repeat(apply And.intro;focus(and_intros<;>first|trivial|rfl)))
    refine ⟨⟨2⟩, by first | exact .inl rfl | exact .inr (.inl rfl) | exact .inr (.inr (.inl rfl)) | exact .inr (.inr (.inr rfl)), ?_⟩
    (and_intros<;>first|trivial|rfl)
  · (repeat(apply And.intro;focus(and_intros<;>first|trivial|rfl)))
    refine ⟨⟨2⟩, by first | exact .inl rfl | exact .inr (.inl rfl) | exact .inr (.inr (.inl rfl)) | exact .inr (.inr (.inr rfl)), ?_⟩
    (and_intros<;>first|trivial|rfl)
  (repeat(apply And.intro;focus(and_intros<;>first|trivial|rfl)))
  refine ⟨a.b, a.o, rfl, fun q e => ⟨x, by rw [e]; exact hx, ?_⟩⟩
  refine ⟨fun _ => ?_, fun p5 => ?_⟩
  · (repeat(apply And.intro;focus(and_intros<;>first|trivial|rfl)))
    refine ⟨⟨21⟩, by first | exact .inl rfl | exact .inr (.inl rfl) | exact .inr (.inr (.inl rfl)) | exact .inr (.inr (.inr rfl)), ?_⟩
    (and_intros<;>first|trivial|rfl)
  (repeat(apply And.intro;focus(and_intros<;>first|trivial|rfl)))
  refine ⟨a.b, a.o, rfl, fun q e => ⟨y, by rw [e]; exact hy, ?_⟩⟩
  refine ⟨fun _ => ?_, fun p6 => ?_⟩
  · (repeat(apply And.intro;focus(and_intros<;>first|trivial|rfl)))
    refine ⟨⟨21⟩, by first | exact .inl rfl | exact .inr (.inl rfl) | exact .inr (.inr (.inl rfl)) | exact .inr (.inr (.inr rfl)), ?_⟩
    (and_intros<;>first|trivial|rfl)
  (repeat(apply And.intro;focus(and_intros<;>first|trivial|rfl)))
  refine ⟨a.b, a.o, rfl, fun q e => ⟨x, by rw [e]; exact hx, ?_⟩⟩
  (repeat(apply And.intro;focus(and_intros<;>first|trivial|rfl)))
  intro z1 e1
  (repeat(apply And.intro;focus(and_intros<;>first|trivial|rfl)))
  refine ⟨a.b, a.o, rfl, fun q e => ⟨y, by rw [e]; exact hy, ?_⟩⟩
  (repeat(apply And.intro;focus(and_intros<;>first|trivial|rfl)))
  intro z2 e2
  (repeat(apply And.intro;focus(and_intros<;>first|trivial|rfl)))
  refine ⟨⟨trivial, k2, j2, hi2.1, hi2.2.2⟩, by (and_intros<;>first|trivial|rfl), fun _ _ => ?_, trivial⟩
  (repeat(apply And.intro;focus(and_intros<;>first|trivial|rfl)))
  refine ⟨⟨trivial, hc, x, y, hx, hy⟩, by (and_intros<;>first|trivial|rfl), fun b hb => ?_, trivial⟩
  obtain ⟨hb1, hb2⟩ := hb
  have e3 : b.x = x := fx_int hb1 hx
  have e4 : b.y = y := fx_int hb2 hy
  rw [wr64 (by omega)] at e1 e2
  have e1 : a.s.x - b.x = z1 := by omega
  have e2 : a.s.y - b.y = z2 := by omega
  (repeat(apply And.intro;focus(and_intros<;>first|trivial|rfl)))
  refine ⟨b, ⟨⟨hb1, hb2⟩, ⟨k, j, hi, by omega⟩, by omega, by omega⟩, ?_⟩
  (and_intros<;>first|trivial|rfl)
set_option maxHeartbeats 3200000 in
theorem vc_push22 (a : Pu2) : G_push22 a = ((True ∧ True ∧ QYp2P_5) ∧ (True ∧ (∃ (x0 x1 : Nat), isG a.2 a.3 x0 x1)) ∧ QYp2P_2 a.3 a.2 ∧ (∀ (_ : Unit), True → (True ∧ True ∧ (W_G_push22_0 = W_G_push22_0 ∧ True) ∧ (True ∧
True) ∧ (True ∧ True) ∧ (W_G_push22_1 a = W_G_push22_1 a ∧ True) ∧ (W_G_push22_2 a = W_G_push22_2 a ∧ True) ∧ True ∧ True ∧ True ∧ True) ∧ (True ∧ (∃ (x3 x4 : Nat), isG a.1.4 a.1.5
x3 x4)) ∧ QYp2P_1 a.1 ∧ (∀ (x5 : TnB), QYp2P_18 a.1 x5.1 → (x5.1 < 0 → (True ∧ QYp2P_5) ∧ (∃ (x8 : TnB), QYp2P_7 x8.1 ∧ x8.1 = 10 ∧ QYp2P_4 a.1)) ∧ (¬(x5.1 < 0) → (True ∧ QYp2P_5)
∧ QYp2P_5 ∧ QYp2P_11 ∧ ∃ (x9 x10 : Nat), W_G_push22_3 a = W_G_push22_4 x9 x10 ∧ ∀ (x11 : Nat), x11 = x10 + 0 → ∃ (x12 : Int), QYp2P_8 x9 x11 x12 ∧ ((0 : Int) ≤ x12 → (x12 ≤
(1125899906842624 : Int) → QYp2P_12 ∧ (∃ (x13 x14 : Nat), W_G_push22_3 a = W_G_push22_4 x13 x14 ∧ ∀ (x15 : Nat), x15 = x14 + 1 → ∃ (x16 : Int), QYp2P_8 x13 x15 x16 ∧ ((0 : Int) ≤
x16 → (x16 ≤ (1125899906842624 : Int) → QYp2P_11 ∧ (∃ (x17 x18 : Nat), W_G_push22_3 a = W_G_push22_4 x17 x18 ∧ ∀ (x19 : Nat), x19 = x18 + 0 → ∃ (x20 : Int), QYp2P_8 x17 x19 x20 ∧
(a.1.6 < x20 → (∃ (x21 : TnB), QYp2P_7 x21.1 ∧ x21.1 = 21 ∧ QYp2P_4 a.1)) ∧ (¬(a.1.6 < x20) → QYp2P_12 ∧ ∃ (x22 x23 : Nat), W_G_push22_3 a = W_G_push22_4 x22 x23 ∧ ∀ (x24 : Nat),
x24 = x23 + 1 → ∃ (x25 : Int), QYp2P_8 x22 x24 x25 ∧ (a.1.7 < x25 → (∃ (x26 : TnB), QYp2P_7 x26.1 ∧ x26.1 = 21 ∧ QYp2P_4 a.1)) ∧ (¬(a.1.7 < x25) → QYp2P_11 ∧ ∃ (x27 x28 : Nat),
W_G_push22_3 a = W_G_push22_4 x27 x28 ∧ ∀ (x29 : Nat), x29 = x28 + 0 → ∃ (x30 : Int), QYp2P_8 x27 x29 x30 ∧ ∀ (x31 : Int), x31 = IntKind.wrap .i64 (a.1.6 - x30) → QYp2P_12 ∧ ∃ (x32
x33 : Nat), W_G_push22_3 a = W_G_push22_4 x32 x33 ∧ ∀ (x34 : Nat), x34 = x33 + 1 → ∃ (x35 : Int), QYp2P_8 x32 x34 x35 ∧ ∀ (x36 : Int), x36 = IntKind.wrap .i64 (a.1.7 - x35) →
QYp2P_19 a.3 ∧ (QYp2P_13 a.3 ∧ ZF a.3.1 ∧ ZF a.3.2 ∧ ZF a.3.3 ∧ True) ∧ (∀ (_ : Unit), True → (True ∧ 2 ≤ a.6 ∧ (∃ (x40 x41 : Int), QYp2P_9 a.4 a.5 x40 x41)) ∧ QYp2P_15 a ∧ (∀ (x42
: XyB), QYp2P_9 a.4 a.5 x42.1 x42.2 → ((True ∧ True ∧ True) ∧ (True ∧ True ∧ True) ∧ (True ∧ True ∧ True) ∧ (W_G_push22_5 a = W_G_push22_5 a ∧ W_G_push22_5 a = W_G_push22_5 a ∧
True) ∧ True ∧ True ∧ True ∧ True ∧ True ∧ (True ∧ True) ∧ (True ∧ True) ∧ (True ∧ True) ∧ (W_G_push22_5 a = W_G_push22_5 a ∧ True) ∧ True ∧ True ∧ True ∧ True) ∧ ((W_G_push22_6 =
W_G_push22_6 ∧ W_G_push22_6 = W_G_push22_6 ∧ W_G_push22_6 = W_G_push22_6 ∧ True) ∧ (W_G_push22_6 = W_G_push22_6 ∧ W_G_push22_6 = W_G_push22_6 ∧ True) ∧ (True ∧ True ∧ True) ∧ (True
∧ True ∧ True) ∧ (W_G_push22_7 = W_G_push22_7 ∧ W_G_push22_7 = W_G_push22_7 ∧ True) ∧ QYp2P_24) ∧ ∃ (x43 : XyB), QYp2P_20 a x43 ∧ (0 : Int) = 0 ∧ (True ∧ (0 = 0 ∧ 3 = 3 ∧ 3 = 3) ∧
True) ∧ (3 = 3 ∧ 0 = 0 ∧ Z2 ∧ Z2 ∧ Z2 ∧ Z1 a.1.1.1 ∧ Z1 a.1.1.2 ∧ Z1 a.1.1.3 ∧ Z1 a.1.1.4 ∧ Z1 a.1.1.5 ∧ Z2 ∧ QYp2P_10 a) ∧ (2 = 2 ∧ Z1 a.1.1.6 ∧ Z1 a.1.1.7 ∧ True) ∧ QYp2P_17 a
x43 x31 x36 x42) ∧ True) ∧ True)))) ∧ (¬(x16 ≤ (1125899906842624 : Int)) → QYp2P_26 a.1)) ∧ (¬((0 : Int) ≤ x16) → QYp2P_26 a.1))) ∧ (¬(x12 ≤ (1125899906842624 : Int)) → QYp2P_26
a.1)) ∧ (¬((0 : Int) ≤ x12) → QYp2P_26 a.1))) ∧ True) ∧ True) := by kernel_rfl
set_option maxHeartbeats 3200000 in
theorem vc_pushN2 (a : PuA) : G_pushN2 a = ((True ∧ True ∧ QYp2P_5) ∧ (True ∧ (∃ (x0 x1 : Nat), isG a.2 a.3 x0 x1)) ∧ QYp2P_2 a.3 a.2 ∧ (∀ (_ : Unit), True → (True ∧ True ∧ (W_G_pushN2_0 = W_G_pushN2_0 ∧ True) ∧ (True ∧
True) ∧ (True ∧ True) ∧ (W_G_pushN2_1 a = W_G_pushN2_1 a ∧ True) ∧ (W_G_pushN2_2 a = W_G_pushN2_2 a ∧ True) ∧ True ∧ True ∧ True ∧ True) ∧ (True ∧ (∃ (x3 x4 : Nat), isG a.1.4 a.1.5
x3 x4)) ∧ QYp2P_1 a.1 ∧ (∀ (x5 : TnB), QYp2P_18 a.1 x5.1 → (x5.1 < 0 → (True ∧ QYp2P_5) ∧ (∃ (x8 : TnB), QYp2P_7 x8.1 ∧ x8.1 = 10 ∧ QYp2P_4 a.1)) ∧ (¬(x5.1 < 0) → (True ∧ QYp2P_5)
∧ ∀ (x9 : Int), x9 = (↑a.5 : Int) → (x9 = (2 : Int) → QYp2P_5 ∧ False) ∧ (¬(x9 = (2 : Int)) → QYp2P_5 ∧ ∃ (x10 : TnB), QYp2P_7 x10.1 ∧ x10.1 = 3 ∧ QYp2P_4 a.1))) ∧ True) ∧ True) := by kernel_rfl
set_option maxHeartbeats 1600000 in
theorem g_push22 (a : Pu2) (hp : isGx a.s.g a.s.p ∧ isGx a.g a.p) (hs : smQ a.s.x ∧ smQ a.s.y) (hc : 2 ≤ a.c) (hx : ∃ x y : Int, FX Tryz.prog a.b a.o (.int .i64 x) ∧ FX Tryz.prog a.b (a.o + 1) (.int .i64 y)) : GW (G_push22 a) := by
  obtain ⟨⟨k, j, hi⟩, k2, j2, hi2⟩ := hp
  obtain ⟨⟨s1, s2⟩, s3, s4⟩ := hs
  obtain ⟨x, y, hx, hy⟩ := hx
  obtain ⟨f1, f2, f3, f4, f5, f6, f7, f8, f9, f10, f11⟩ := flG_of hi
  obtain ⟨g1, g2, g3, g4, g5, g6, g7, g8, g9, g10, g11⟩ := flG_of hi2
  have f12 := fl11
  have f13 := fl00
  have f14 := glO
  refine ⟨?_⟩
  rw [vc_push22]
  (repeat(apply And.intro;focus(and_intros<;>first|trivial|rfl)))
  refine ⟨⟨trivial, k2, j2, hi2⟩, by (and_intros<;>first|trivial|rfl), fun _ _ => ?_, trivial⟩
  (repeat(apply And.intro;focus(and_intros<;>first|trivial|rfl)))
  refine ⟨⟨trivial, k, j, hi⟩, by (and_intros<;>first|trivial|rfl), fun t ht => ?_, trivial⟩
  obtain ⟨k', j', hi', ht⟩ := ht
  obtain ⟨rfl, rfl⟩ := isG_inj hi hi'
  refine ⟨fun h0 => ?_, fun h0 => ?_⟩
  · (repeat(apply And.intro;focus(and_intros<;>first|trivial|rfl)))
    refine ⟨⟨10⟩, by first | exact .inl rfl | exact .inr (.inl rfl) | exact .inr (.inr (.inl rfl)) | exact .inr (.inr (.inr rfl)), ?_⟩
    (and_intros<;>first|trivial|rfl)
  (repeat(apply And.intro;focus(and_intros<;>first|trivial|rfl)))
  refine ⟨a.b, a.o, rfl, fun q e => ⟨x, by rw [e]; exact hx, ?_⟩⟩
  refine ⟨fun p1 => ⟨fun p2 => ?_, fun _ => ?_⟩, fun _ => ?_⟩
  rotate_left
  · (repeat(apply And.intro;focus(and_intros<;>first|trivial|rfl)))
    refine ⟨⟨2⟩, by first | exact .inl rfl | exact .inr (.inl rfl) | exact .inr (.inr (.inl rfl)) | exact .inr (.inr (.inr rfl)), ?_⟩
    (and_intros<;>first|trivial|rfl)
  · (repeat(apply And.intro;focus(and_intros<;>first|trivial|rfl)))
    refine ⟨⟨2⟩, by first | exact .inl rfl | exact .inr (.inl rfl) | exact .inr (.inr (.inl rfl)) | exact .inr (.inr (.inr rfl)), ?_⟩
    (and_intros<;>first|trivial|rfl)
  (repeat(apply And.intro;focus(and_intros<;>first|trivial|rfl)))
  refine ⟨a.b, a.o, rfl, fun q e => ⟨y, by rw [e]; exact hy, ?_⟩⟩
  refine ⟨fun p3 => ⟨fun p4 => ?_, fun _ => ?_⟩, fun _ => ?_⟩
  rotate_left
  · (repeat(apply And.intro;focus(and_intros<;>first|trivial|rfl)))
    refine ⟨⟨2⟩, by first | exact .inl rfl | exact .inr (.inl rfl) | exact .inr (.inr (.inl rfl)) | exact .inr (.inr (.inr rfl)), ?_⟩
    (and_intros<;>first|trivial|rfl)
  · (repeat(apply And.intro;focus(and_intros<;>first|trivial|rfl)))
    refine ⟨⟨2⟩, by first | exact .inl rfl | exact .inr (.inl rfl) | exact .inr (.inr (.inl rfl)) | exact .inr (.inr (.inr rfl)), ?_⟩
    (and_intros<;>first|trivial|rfl)
  (repeat(apply And.intro;focus(and_intros<;>first|trivial|rfl)))
  refine ⟨a.b, a.o, rfl, fun q e => ⟨x, by rw [e]; exact hx, ?_⟩⟩
  refine ⟨fun _ => ?_, fun p5 => ?_⟩
  · (repeat(apply And.intro;focus(and_intros<;>first|trivial|rfl)))
    refine ⟨⟨21⟩, by first | exact .inl rfl | exact .inr (.inl rfl) | exact .inr (.inr (.inl rfl)) | exact .inr (.inr (.inr rfl)), ?_⟩
    (and_intros<;>first|trivial|rfl)
  (repeat(apply And.intro;focus(and_intros<;>first|trivial|rfl)))
  refine ⟨a.b, a.o, rfl, fun q e => ⟨y, by rw [e]; exact hy, ?_⟩⟩
  refine ⟨fun _ => ?_, fun p6 => ?_⟩
  · (repeat(apply And.intro;focus(and_intros<;>first|trivial|rfl)))
    refine ⟨⟨21⟩, by first | exact .inl rfl | exact .inr (.inl rfl) | exact .inr (.inr (.inl rfl)) | exact .inr (.inr (.inr rfl)), ?_⟩
    (and_intros<;>first|trivial|rfl)
  (repeat(apply And.intro;focus(and_intros<;>first|trivial|rfl)))
  refine ⟨a.b, a.o, rfl, fun q e => ⟨x, by rw [e]; exact hx, ?_⟩⟩
  (repeat(apply And.intro;focus(and_intros<;>first|trivial|rfl)))
  intro z1 e1
  (repeat(apply And.intro;focus(and_intros<;>first|trivial|rfl)))
  refine ⟨a.b, a.o, rfl, fun q e => ⟨y, by rw [e]; exact hy, ?_⟩⟩
  (repeat(apply And.intro;focus(and_intros<;>first|trivial|rfl)))
  intro z2 e2
  (repeat(apply And.intro;focus(and_intros<;>first|trivial|rfl)))
  refine ⟨⟨trivial, k2, j2, hi2.1, hi2.2.2⟩, by (and_intros<;>first|trivial|rfl), fun _ _ => ?_, trivial⟩
  (repeat(apply And.intro;focus(and_intros<;>first|trivial|rfl)))
  refine ⟨⟨trivial, hc, x, y, hx, hy⟩, by (and_intros<;>first|trivial|rfl), fun b hb => ?_, trivial⟩
  obtain ⟨hb1, hb2⟩ := hb
  have e3 : b.x = x := fx_int hb1 hx
  have e4 : b.y = y := fx_int hb2 hy
  rw [wr64 (by omega)] at e1 e2
  have e1 : a.s.x - b.x = z1 := by omega
  have e2 : a.s.y - b.y = z2 := by omega
  (repeat(apply And.intro;focus(and_intros<;>first|trivial|rfl)))
  refine ⟨b, ⟨⟨hb1, hb2⟩, ⟨k, j, hi, by omega⟩, by omega, by omega⟩, ?_⟩
  (and_intros<;>first|trivial|rfl)
set_option maxHeartbeats 3200000 in
theorem vc_push23 (a : Pu2) : G_push23 a = ((True ∧ True ∧ QYp2P_5) ∧ (True ∧ (∃ (x0 x1 : Nat), isG a.2 a.3 x0 x1)) ∧ QYp2P_2 a.3 a.2 ∧ (∀ (_ : Unit), True → (True ∧ True ∧ (W_G_push23_0 = W_G_push23_0 ∧ True) ∧ (True ∧
True) ∧ (True ∧ True) ∧ (W_G_push23_1 a = W_G_push23_1 a ∧ True) ∧ (W_G_push23_2 a = W_G_push23_2 a ∧ True) ∧ True ∧ True ∧ True ∧ True) ∧ (True ∧ (∃ (x3 x4 : Nat), isG a.1.4 a.1.5
x3 x4)) ∧ QYp2P_1 a.1 ∧ (∀ (x5 : TnB), QYp2P_18 a.1 x5.1 → (x5.1 < 0 → (True ∧ QYp2P_5) ∧ (∃ (x8 : TnB), QYp2P_7 x8.1 ∧ x8.1 = 10 ∧ QYp2P_3 a.1)) ∧ (¬(x5.1 < 0) → (True ∧ QYp2P_5)
∧ QYp2P_5 ∧ QYp2P_11 ∧ ∃ (x9 x10 : Nat), W_G_push23_3 a = W_G_push23_4 x9 x10 ∧ ∀ (x11 : Nat), x11 = x10 + 0 → ∃ (x12 : Int), QYp2P_8 x9 x11 x12 ∧ ((0 : Int) ≤ x12 → (x12 ≤
(1125899906842624 : Int) → QYp2P_12 ∧ (∃ (x13 x14 : Nat), W_G_push23_3 a = W_G_push23_4 x13 x14 ∧ ∀ (x15 : Nat), x15 = x14 + 1 → ∃ (x16 : Int), QYp2P_8 x13 x15 x16 ∧ ((0 : Int) ≤
x16 → (x16 ≤ (1125899906842624 : Int) → QYp2P_11 ∧ (∃ (x17 x18 : Nat), W_G_push23_3 a = W_G_push23_4 x17 x18 ∧ ∀ (x19 : Nat), x19 = x18 + 0 → ∃ (x20 : Int), QYp2P_8 x17 x19 x20 ∧
(a.1.6 < x20 → (∃ (x21 : TnB), QYp2P_7 x21.1 ∧ x21.1 = 21 ∧ QYp2P_3 a.1)) ∧ (¬(a.1.6 < x20) → QYp2P_12 ∧ ∃ (x22 x23 : Nat), W_G_push23_3 a = W_G_push23_4 x22 x23 ∧ ∀ (x24 : Nat),
x24 = x23 + 1 → ∃ (x25 : Int), QYp2P_8 x22 x24 x25 ∧ (a.1.7 < x25 → (∃ (x26 : TnB), QYp2P_7 x26.1 ∧ x26.1 = 21 ∧ QYp2P_3 a.1)) ∧ (¬(a.1.7 < x25) → QYp2P_11 ∧ ∃ (x27 x28 : Nat),
W_G_push23_3 a = W_G_push23_4 x27 x28 ∧ ∀ (x29 : Nat), x29 = x28 + 0 → ∃ (x30 : Int), QYp2P_8 x27 x29 x30 ∧ ∀ (x31 : Int), x31 = IntKind.wrap .i64 (a.1.6 - x30) → QYp2P_12 ∧ ∃ (x32
x33 : Nat), W_G_push23_3 a = W_G_push23_4 x32 x33 ∧ ∀ (x34 : Nat), x34 = x33 + 1 → ∃ (x35 : Int), QYp2P_8 x32 x34 x35 ∧ ∀ (x36 : Int), x36 = IntKind.wrap .i64 (a.1.7 - x35) →
QYp2P_19 a.3 ∧ (QYp2P_13 a.3 ∧ ZF a.3.1 ∧ ZF a.3.2 ∧ ZF a.3.3 ∧ True) ∧ (∀ (_ : Unit), True → (True ∧ 2 ≤ a.6 ∧ (∃ (x40 x41 : Int), QYp2P_9 a.4 a.5 x40 x41)) ∧ QYp2P_15 a ∧ (∀ (x42
: XyB), QYp2P_9 a.4 a.5 x42.1 x42.2 → ((True ∧ True ∧ True) ∧ (True ∧ True ∧ True) ∧ (True ∧ True ∧ True) ∧ (W_G_push23_5 a = W_G_push23_5 a ∧ W_G_push23_5 a = W_G_push23_5 a ∧
True) ∧ True ∧ True ∧ True ∧ True ∧ True ∧ (True ∧ True) ∧ (True ∧ True) ∧ (True ∧ True) ∧ (W_G_push23_5 a = W_G_push23_5 a ∧ True) ∧ True ∧ True ∧ True ∧ True) ∧ ((W_G_push23_6 =
W_G_push23_6 ∧ W_G_push23_6 = W_G_push23_6 ∧ W_G_push23_6 = W_G_push23_6 ∧ True) ∧ (W_G_push23_6 = W_G_push23_6 ∧ W_G_push23_6 = W_G_push23_6 ∧ True) ∧ (True ∧ True ∧ True) ∧ (True
∧ True ∧ True) ∧ (W_G_push23_7 = W_G_push23_7 ∧ W_G_push23_7 = W_G_push23_7 ∧ True) ∧ QYp2P_24) ∧ ∃ (x43 : XyB), QYp2P_20 a x43 ∧ (0 : Int) = 0 ∧ (True ∧ (0 = 0 ∧ 4 = 4 ∧ 4 = 4) ∧
True) ∧ (4 = 4 ∧ 0 = 0 ∧ Z2 ∧ Z2 ∧ Z2 ∧ Z1 a.1.1.1 ∧ Z1 a.1.1.2 ∧ Z1 a.1.1.3 ∧ Z1 a.1.1.4 ∧ Z1 a.1.1.5 ∧ Z2 ∧ 0 = 0 ∧ Z2 ∧ Z2 ∧ Z2 ∧ Z1 a.1.2.1 ∧ Z1 a.1.2.2 ∧ Z1 a.1.2.3 ∧ Z1
a.1.2.4 ∧ Z1 a.1.2.5 ∧ Z2 ∧ QYp2P_10 a) ∧ (2 = 2 ∧ Z1 a.1.1.6 ∧ Z1 a.1.1.7 ∧ True) ∧ (2 = 2 ∧ Z1 a.1.2.6 ∧ Z1 a.1.2.7 ∧ True) ∧ QYp2P_17 a x43 x31 x36 x42) ∧ True) ∧ True)))) ∧
(¬(x16 ≤ (1125899906842624 : Int)) → QYp2P_27 a.1)) ∧ (¬((0 : Int) ≤ x16) → QYp2P_27 a.1))) ∧ (¬(x12 ≤ (1125899906842624 : Int)) → QYp2P_27 a.1)) ∧ (¬((0 : Int) ≤ x12) → QYp2P_27
a.1))) ∧ True) ∧ True) := by kernel_rfl
set_option maxHeartbeats 3200000 in
theorem vc_pushN3 (a : PuA) : G_pushN3 a = ((True ∧ True ∧ QYp2P_5) ∧ (True ∧ (∃ (x0 x1 : Nat), isG a.2 a.3 x0 x1)) ∧ QYp2P_2 a.3 a.2 ∧ (∀ (_ : Unit), True → (True ∧ True ∧ (W_G_pushN3_0 = W_G_pushN3_0 ∧ True) ∧ (True ∧
True) ∧ (True ∧ True) ∧ (W_G_pushN3_1 a = W_G_pushN3_1 a ∧ True) ∧ (W_G_pushN3_2 a = W_G_pushN3_2 a ∧ True) ∧ True ∧ True ∧ True ∧ True) ∧ (True ∧ (∃ (x3 x4 : Nat), isG a.1.4 a.1.5
x3 x4)) ∧ QYp2P_1 a.1 ∧ (∀ (x5 : TnB), QYp2P_18 a.1 x5.1 → (x5.1 < 0 → (True ∧ QYp2P_5) ∧ (∃ (x8 : TnB), QYp2P_7 x8.1 ∧ x8.1 = 10 ∧ QYp2P_3 a.1)) ∧ (¬(x5.1 < 0) → (True ∧ QYp2P_5)
∧ ∀ (x9 : Int), x9 = (↑a.5 : Int) → (x9 = (2 : Int) → QYp2P_5 ∧ False) ∧ (¬(x9 = (2 : Int)) → QYp2P_5 ∧ ∃ (x10 : TnB), QYp2P_7 x10.1 ∧ x10.1 = 3 ∧ QYp2P_3 a.1))) ∧ True) ∧ True) := by kernel_rfl
set_option maxHeartbeats 1600000 in
theorem g_push23 (a : Pu2) (hp : isGx a.s.g a.s.p ∧ isGx a.g a.p) (hs : smQ a.s.x ∧ smQ a.s.y) (hc : 2 ≤ a.c) (hx : ∃ x y : Int, FX Tryz.prog a.b a.o (.int .i64 x) ∧ FX Tryz.prog a.b (a.o + 1) (.int .i64 y)) : GW (G_push23 a) := by
  obtain ⟨⟨k, j, hi⟩, k2, j2, hi2⟩ := hp
  obtain ⟨⟨s1, s2⟩, s3, s4⟩ := hs
  obtain ⟨x, y, hx, hy⟩ := hx
  obtain ⟨f1, f2, f3, f4, f5, f6, f7, f8, f9, f10, f11⟩ := flG_of hi
  obtain ⟨g1, g2, g3, g4, g5, g6, g7, g8, g9, g10, g11⟩ := flG_of hi2
  have f12 := fl11
  have f13 := fl00
  have f14 := glO
  refine ⟨?_⟩
  rw [vc_push23]
  (repeat(apply And.intro;focus(and_intros<;>first|trivial|rfl)))
  refine ⟨⟨trivial, k2, j2, hi2⟩, by (and_intros<;>first|trivial|rfl), fun _ _ => ?_, trivial⟩
  (repeat(apply And.intro;focus(and_intros<;>first|trivial|rfl)))
  refine ⟨⟨trivial, k, j, hi⟩, by (and_intros<;>first|trivial|rfl), fun t ht => ?_, trivial⟩
  obtain ⟨k', j', hi', ht⟩ := ht
  obtain ⟨rfl, rfl⟩ := isG_inj hi hi'
  refine ⟨fun h0 => ?_, fun h0 => ?_⟩
  · (repeat(apply And.intro;focus(and_intros<;>first|trivial|rfl)))
    refine ⟨⟨10⟩, by first | exact .inl rfl | exact .inr (.inl rfl) | exact .inr (.inr (.inl rfl)) | exact .inr (.inr (.inr rfl)), ?_⟩
    (and_intros<;>first|trivial|rfl)
  (repeat(apply And.intro;focus(and_intros<;>first|trivial|rfl)))
  refine ⟨a.b, a.o, rfl, fun q e => ⟨x, by rw [e]; exact hx, ?_⟩⟩
  refine ⟨fun p1 => ⟨fun p2 => ?_, fun _ => ?_⟩, fun _ => ?_⟩
  rotate_left
  · (repeat(apply And.intro;focus(and_intros<;>first|trivial|rfl)))
    refine ⟨⟨2⟩, by first | exact .inl rfl | exact .inr (.inl rfl) | exact .inr (.inr (.inl rfl)) | exact .inr (.inr (.inr rfl)), ?_⟩
    (and_intros<;>first|trivial|rfl)
  · (repeat(apply And.intro;focus(and_intros<;>first|trivial|rfl)))
    refine ⟨⟨2⟩, by first | exact .inl rfl | exact .inr (.inl rfl) | exact .inr (.inr (.inl rfl)) | exact .inr (.inr (.inr rfl)), ?_⟩
    (and_intros<;>first|trivial|rfl)
  (repeat(apply And.intro;focus(and_intros<;>first|trivial|rfl)))
  refine ⟨a.b, a.o, rfl, fun q e => ⟨y, by rw [e]; exact hy, ?_⟩⟩
  refine ⟨fun p3 => ⟨fun p4 => ?_, fun _ => ?_⟩, fun _ => ?_⟩
  rotate_left
  · (repeat(apply And.intro;focus(and_intros<;>first|trivial|rfl)))
    refine ⟨⟨2⟩, by first | exact .inl rfl | exact .inr (.inl rfl) | exact .inr (.inr (.inl rfl)) | exact .inr (.inr (.inr rfl)), ?_⟩
    (and_intros<;>first|trivial|rfl)
  · (repeat(apply And.intro;focus(and_intros<;>first|trivial|rfl)))
    refine ⟨⟨2⟩, by first | exact .inl rfl | exact .inr (.inl rfl) | exact .inr (.inr (.inl rfl)) | exact .inr (.inr (.inr rfl)), ?_⟩
    (and_intros<;>first|trivial|rfl)
  (repeat(apply And.intro;focus(and_intros<;>first|trivial|rfl)))
  refine ⟨a.b, a.o, rfl, fun q e => ⟨x, by rw [e]; exact hx, ?_⟩⟩
  refine ⟨fun _ => ?_, fun p5 => ?_⟩
  · (repeat(apply And.intro;focus(and_intros<;>first|trivial|rfl)))
    refine ⟨⟨21⟩, by first | exact .inl rfl | exact .inr (.inl rfl) | exact .inr (.inr (.inl rfl)) | exact .inr (.inr (.inr rfl)), ?_⟩
    (and_intros<;>first|trivial|rfl)
  (repeat(apply And.intro;focus(and_intros<;>first|trivial|rfl)))
  refine ⟨a.b, a.o, rfl, fun q e => ⟨y, by rw [e]; exact hy, ?_⟩⟩
  refine ⟨fun _ => ?_, fun p6 => ?_⟩
  · (repeat(apply And.intro;focus(and_intros<;>first|trivial|rfl)))
    refine ⟨⟨21⟩, by first | exact .inl rfl | exact .inr (.inl rfl) | exact .inr (.inr (.inl rfl)) | exact .inr (.inr (.inr rfl)), ?_⟩
    (and_intros<;>first|trivial|rfl)
  (repeat(apply And.intro;focus(and_intros<;>first|trivial|rfl)))
  refine ⟨a.b, a.o, rfl, fun q e => ⟨x, by rw [e]; exact hx, ?_⟩⟩
  (repeat(apply And.intro;focus(and_intros<;>first|trivial|rfl)))
  intro z1 e1
  (repeat(apply And.intro;focus(and_intros<;>first|trivial|rfl)))
  refine ⟨a.b, a.o, rfl, fun q e => ⟨y, by rw [e]; exact hy, ?_⟩⟩
  (repeat(apply And.intro;focus(and_intros<;>first|trivial|rfl)))
  intro z2 e2
  (repeat(apply And.intro;focus(and_intros<;>first|trivial|rfl)))
  refine ⟨⟨trivial, k2, j2, hi2.1, hi2.2.2⟩, by (and_intros<;>first|trivial|rfl), fun _ _ => ?_, trivial⟩
  (repeat(apply And.intro;focus(and_intros<;>first|trivial|rfl)))
  refine ⟨⟨trivial, hc, x, y, hx, hy⟩, by (and_intros<;>first|trivial|rfl), fun b hb => ?_, trivial⟩
  obtain ⟨hb1, hb2⟩ := hb
  have e3 : b.x = x := fx_int hb1 hx
  have e4 : b.y = y := fx_int hb2 hy
  rw [wr64 (by omega)] at e1 e2
  have e1 : a.s.x - b.x = z1 := by omega
  have e2 : a.s.y - b.y = z2 := by omega
  (repeat(apply And.intro;focus(and_intros<;>first|trivial|rfl)))
  refine ⟨b, ⟨⟨hb1, hb2⟩, ⟨k, j, hi, by omega⟩, by omega, by omega⟩, ?_⟩
  (and_intros<;>first|trivial|rfl)
end Go.Proofs.YtfkacmmcgncooaaGreatDoor
