/- Tables within tables: what one table gives is as is told. -/
import Derived.Test.YtfkacmmcgncooaaGreatDoorYh1P
set_option maxRecDepth 100000
namespace Go.Proofs.YtfkacmmcgncooaaGreatDoor
open Go.Ev
set_option linter.unusedSectionVars false
variable [Go.Ev.Frozen Tryz.prog]
noncomputable section
def W_G_gv0_0 : GvA → Option AO := fun (a : GvA) => some (AO.row ([] ++ [Zp 13 0, sc 25 2, sc 26 2, sc 27 2, tgI .i64 a.2.4, tgI .i64 a.2.5, tgI .i64 a.2.6, tgI .i64 a.2.7, tgI
 .u64 a.2.8, unk]) 83 Md.gro)
def W_G_gv1_0 : GvA → Option AO := fun (a : GvA) => some (AO.row ([unk, unk, unk, unk, unk, unk, unk, unk, unk, unk] ++ [Zp 13 0, sc 25 2, sc 26 2, sc 27 2, tgI .i64 a.2.4, tgI
 .i64 a.2.5, tgI .i64 a.2.6, tgI .i64 a.2.7, tgI .u64 a.2.8, unk]) 83 Md.gro)
def W_G_gv2_0 : GvA → Option AO := fun (a : GvA) => some (AO.row ([unk, unk, unk, unk, unk, unk, unk, unk, unk, unk, unk, unk, unk, unk, unk, unk, unk, unk, unk, unk] ++ [Zp 13 0,
 sc 25 2, sc 26 2, sc 27 2, tgI .i64 a.2.4, tgI .i64 a.2.5, tgI .i64 a.2.6, tgI .i64 a.2.7, tgI .u64 a.2.8, unk]) 83 Md.gro)
def W_G_gv3_0 : GvA → Option AO := fun (a : GvA) => some (AO.row ([unk, unk, unk, unk, unk, unk, unk, unk, unk, unk, unk, unk, unk, unk, unk, unk, unk, unk, unk, unk, unk, unk,
 unk, unk, unk, unk, unk, unk, unk, unk] ++ [Zp 13 0, sc 25 2, sc 26 2, sc 27 2, tgI .i64 a.2.4, tgI .i64 a.2.5, tgI .i64 a.2.6, tgI .i64 a.2.7, tgI .u64 a.2.8, unk]) 83 Md.gro)
end
theorem cwGv_ok : CwOK Tryz.prog cwGv := cwX_ok (fun _ h => cwD_ok s_gturn (cwD_ok s_gpays h)) 3
set_option maxHeartbeats 3200000 in
abbrev QYq1P_1 (a0 : GvA) : Prop := (True ∧ True ∧ (0 = 0 ∧ 2 = 2 ∧ 2 = 2) ∧ Z1 a0.1.19.1 ∧ Z1 a0.1.19.2 ∧ Z1 a0.1.19.3 ∧ Z1 a0.1.19.4 ∧ Z1 a0.1.19.5 ∧ Z1 a0.1.19.6 ∧ Z1 a0.1.19.7
 ∧ Z1 a0.1.19.8 ∧ 0 = 0 ∧ (0 = 0 ∧ 1 = 1 ∧ 1 = 1) ∧ (0 = 0 ∧ 2 = 2 ∧ 2 = 2) ∧ True) ∧ (True ∧ FlatL [Value.int .i64 1, Value.int .i64 1] ∧ [Value.int .i64 1, Value.int .i64 1] =
 [Value.int .i64 1, Value.int .i64 1]) ∧ (True ∧ (2 : Int) = 2 ∧ (2 : Int) = 2 ∧ (0 = 0 ∧ 2 = 2 ∧ 2 = 2) ∧ (0 = 0 ∧ 1 = 1 ∧ 1 = 1) ∧ (0 = 0 ∧ Z1 a0.1.1 ∧ Z1 a0.1.1) ∧ (0 = 0 ∧ Z1
 a0.1.2 ∧ Z1 a0.1.2) ∧ (0 = 0 ∧ Z1 a0.1.3 ∧ Z1 a0.1.3) ∧ (0 = 0 ∧ Z1 a0.1.4 ∧ Z1 a0.1.4) ∧ (0 = 0 ∧ Z1 a0.1.5 ∧ Z1 a0.1.5) ∧ Z1 a0.1.6 ∧ Z1 a0.1.7 ∧ Z1 a0.1.8 ∧ Z1 a0.1.9 ∧ Z1
 a0.1.10 ∧ True) ∧ (True ∧ FlatL [Value.int .i32 0, Value.int .i32 0] ∧ [Value.int .i32 0, Value.int .i32 0] = [Value.int .i32 0, Value.int .i32 0]) ∧ ZF a0.1.11 ∧ ZF a0.1.12 ∧ ZF
 a0.1.13 ∧ ZF a0.1.14 ∧ ZF a0.1.15 ∧ ZF a0.1.16 ∧ ZF a0.1.17 ∧ ZF a0.1.18 ∧ ZF a0.2.1 ∧ ZF a0.2.2 ∧ ZF a0.2.3 ∧ ZF cells2 ∧ True
abbrev QYq1P_2 (a0 : RuA) (a1 : PoA) (a2 : Int) (a3 : Int) : Prop := (∀ (_ : Unit), (∃ (b1 b2 : Nat), isG a0 a1 b1 b2 ∧ (0 : Int) ≤ turnG b1 b2) → ∃ (_ : Unit), (∃ (b2 b3 : Nat),
 isG a0 a1 b2 b3 ∧ (0 : Int) ≤ turnG b2 b3) ∧ (0 = 0 ∧ 2 = 2 ∧ 2 = 2) ∧ True) ∧ (∀ (b0 : XyB), (∃ (b1 b2 : Nat), isG a0 a1 b1 b2 ∧ turnG b1 b2 < (0 : Int) ∧ payR b1 b2 (a2 + a3)
 b0.1 b0.2) → ∃ (b1 : XyB), (∃ (b2 b3 : Nat), isG a0 a1 b2 b3 ∧ turnG b2 b3 < (0 : Int) ∧ payR b2 b3 (a2 + a3) b1.1 b1.2) ∧ (0 = 0 ∧ 2 = 2 ∧ 2 = 2) ∧ (2 = 2 ∧ b1.1 = b0.1 ∧ b1.2 =
 b0.2 ∧ True) ∧ True) ∧ True
abbrev QYq1P_3 (a0 : PoA) : Prop := True ∧ 0 = 0 ∧ (0 = 0 ∧ 2 = 2 ∧ 2 = 2) ∧ (0 = 0 ∧ 2 = 2 ∧ 2 = 2) ∧ (0 = 0 ∧ 2 = 2 ∧ 2 = 2) ∧ Z1 a0.4 ∧ Z1 a0.5 ∧ Z1 a0.6 ∧ Z1 a0.7 ∧ Z1 a0.8 ∧
 True ∧ True
abbrev QYq1P_4 (a0 : PoA) : Prop := (0 = 0 ∧ 2 = 2 ∧ 2 = 2) ∧ (0 = 0 ∧ 2 = 2 ∧ 2 = 2) ∧ (0 = 0 ∧ 2 = 2 ∧ 2 = 2) ∧ Z1 a0.4 ∧ Z1 a0.5 ∧ Z1 a0.6 ∧ Z1 a0.7 ∧ Z1 a0.8 ∧ True
theorem vc_gv0 (a : GvA) : G_gv0 a = ((True ∧ (∃ (x0 x1 : Nat), isG a.1 a.2 x0 x1)) ∧ ((0 = 0 ∧ QYq1P_4 a.2 ∧ True) ∧ QYq1P_1 a) ∧ (∀ (x2 : TnB), (∃ (x3 x4 : Nat), isG a.1 a.2 x3 x4 ∧ x2.1 = turnG x3 x4) → (x2.1 < 0 →
(True ∧ True ∧ True ∧ True ∧ True ∧ True ∧ True ∧ True ∧ True ∧ True ∧ True ∧ True) ∧ (∀ (x5 : Int), x5 = IntKind.wrap .i64 ((0 : Int) + a.3) → ∀ (x6 : Int), x6 = IntKind.wrap .i64
(x5 + a.4) → (True ∧ (∃ (x7 x8 : Nat), isG a.1 a.2 x7 x8 ∧ turnG x7 x8 < (0 : Int)) ∧ rightQ x6) ∧ ((0 = 0 ∧ QYq1P_4 a.2 ∧ x6 = x6 ∧ True) ∧ QYq1P_1 a) ∧ (∀ (x9 : XyB), (∃ (x10 x11
: Nat), isG a.1 a.2 x10 x11 ∧ payR x10 x11 x6 x9.1 x9.2) → ((True ∧ True) ∧ (True ∧ True) ∧ (True ∧ True) ∧ (W_G_gv0_0 a = W_G_gv0_0 a ∧ True) ∧ (True ∧ True) ∧ (True ∧ True) ∧
(True ∧ True) ∧ (W_G_gv0_0 a = W_G_gv0_0 a ∧ True) ∧ True ∧ True ∧ True ∧ True ∧ True ∧ True ∧ True ∧ True ∧ True) ∧ ∃ (x12 : XyB), (∃ (x13 x14 : Nat), isG a.1 a.2 x13 x14 ∧ turnG
x13 x14 < (0 : Int) ∧ payR x13 x14 (a.3 + a.4) x12.1 x12.2) ∧ (0 = 0 ∧ 2 = 2 ∧ 2 = 2) ∧ (2 = 2 ∧ x12.1 = x9.1 ∧ x12.2 = x9.2 ∧ True) ∧ True) ∧ True)) ∧ (¬(x2.1 < 0) → (True ∧ True
∧ True ∧ True ∧ True ∧ True ∧ True ∧ True ∧ True ∧ True ∧ True ∧ True) ∧ ∃ (_ : Unit), (∃ (x16 x17 : Nat), isG a.1 a.2 x16 x17 ∧ (0 : Int) ≤ turnG x16 x17) ∧ (0 = 0 ∧ 2 = 2 ∧ 2 =
2) ∧ True)) ∧ True) := by kernel_rfl
theorem g_gv0 (a : GvA) (hp : isGx a.g a.p) (hx : bigQ a.x) (hy : bigQ a.y) : GW (G_gv0 a) := by
 obtain ⟨k, j, hi⟩ := hp
 obtain ⟨x1, x2⟩ := hx
 obtain ⟨y1, y2⟩ := hy
 obtain ⟨f1, f2, f3, f4, f5, f6, f7, f8, f9, f10, f11⟩ := flG_of hi
 have f12 := fl11
 have f13 := fl00
 have f14 := glO
 refine ⟨?_⟩
 rw [vc_gv0]
 (repeat (refine And.intro ?_ ?_;focus((repeat' first|with_reducible(first|apply And.intro|assumption|rfl)|trivial|rfl); done)))
 refine ⟨⟨trivial, k, j, hi⟩, by (repeat' first|with_reducible(first|apply And.intro|assumption|rfl)|trivial|rfl), fun t ht => ?_, trivial⟩
 obtain ⟨k', j', hi', ht⟩ := ht
 obtain ⟨rfl, rfl⟩ := isG_inj hi hi'
 refine ⟨fun h0 => ?_, fun h0 => ?_⟩
 ·(repeat (refine And.intro ?_ ?_;focus((repeat' first|with_reducible(first|apply And.intro|assumption|rfl)|trivial|rfl); done)))
  intro x5 e5 x6 e6
  rw [wr64 (by omega)] at e5 e6
  (repeat (refine And.intro ?_ ?_;focus((repeat' first|with_reducible(first|apply And.intro|assumption|rfl)|trivial|rfl); done)))
  refine ⟨⟨trivial, ⟨k, j, hi, by omega⟩, by unfold rightQ; omega⟩, by (repeat' first|with_reducible(first|apply And.intro|assumption|rfl)|trivial|rfl), fun b hb => ?_, trivial⟩
  obtain ⟨k', j', hi', hb⟩ := hb
  obtain ⟨rfl, rfl⟩ := isG_inj hi hi'
  have e6' : x6 = a.x + a.y := by omega
  rw [e6'] at hb
  (repeat (refine And.intro ?_ ?_;focus((repeat' first|with_reducible(first|apply And.intro|assumption|rfl)|trivial|rfl); done)))
  refine ⟨b, ⟨k, j, hi, by omega, hb⟩, ?_⟩
  (repeat' first|with_reducible(first|apply And.intro|assumption|rfl)|trivial|rfl)
 ·(repeat (refine And.intro ?_ ?_;focus((repeat' first|with_reducible(first|apply And.intro|assumption|rfl)|trivial|rfl); done)))
  refine ⟨(), ⟨k, j, hi, by omega⟩, ?_⟩
  (repeat' first|with_reducible(first|apply And.intro|assumption|rfl)|trivial|rfl)
theorem s_gives0 : SpecOK Tryz.prog (S_gives 0).spec := fun a => specG_at (S := S_gives 0) (an := []) envOK cwGv_ok fun hp => g_gv0 a hp.1 hp.2.1 hp.2.2
set_option maxHeartbeats 3200000 in
theorem vc_gv1 (a : GvA) : G_gv1 a = ((True ∧ (∃ (x0 x1 : Nat), isG a.1 a.2 x0 x1)) ∧ ((0 = 0 ∧ QYq1P_4 a.2 ∧ True) ∧ QYq1P_1 a) ∧ (∀ (x2 : TnB), (∃ (x3 x4 : Nat), isG a.1 a.2 x3 x4 ∧ x2.1 = turnG x3 x4) → (x2.1 < 0 →
(True ∧ True ∧ True ∧ True ∧ True ∧ True ∧ True ∧ True ∧ True ∧ True ∧ True ∧ True) ∧ (∀ (x5 : Int), x5 = IntKind.wrap .i64 ((0 : Int) + a.3) → ∀ (x6 : Int), x6 = IntKind.wrap .i64
(x5 + a.4) → (True ∧ (∃ (x7 x8 : Nat), isG a.1 a.2 x7 x8 ∧ turnG x7 x8 < (0 : Int)) ∧ rightQ x6) ∧ ((0 = 0 ∧ QYq1P_4 a.2 ∧ x6 = x6 ∧ True) ∧ QYq1P_1 a) ∧ (∀ (x9 : XyB), (∃ (x10 x11
: Nat), isG a.1 a.2 x10 x11 ∧ payR x10 x11 x6 x9.1 x9.2) → ((True ∧ True) ∧ (True ∧ True) ∧ (True ∧ True) ∧ (W_G_gv1_0 a = W_G_gv1_0 a ∧ True) ∧ (True ∧ True) ∧ (True ∧ True) ∧
(True ∧ True) ∧ (W_G_gv1_0 a = W_G_gv1_0 a ∧ True) ∧ True ∧ True ∧ True ∧ True ∧ True ∧ True ∧ True ∧ True ∧ True) ∧ ∃ (x12 : XyB), (∃ (x13 x14 : Nat), isG a.1 a.2 x13 x14 ∧ turnG
x13 x14 < (0 : Int) ∧ payR x13 x14 (a.3 + a.4) x12.1 x12.2) ∧ (0 = 0 ∧ 2 = 2 ∧ 2 = 2) ∧ (2 = 2 ∧ x12.1 = x9.1 ∧ x12.2 = x9.2 ∧ True) ∧ True) ∧ True)) ∧ (¬(x2.1 < 0) → (True ∧ True
∧ True ∧ True ∧ True ∧ True ∧ True ∧ True ∧ True ∧ True ∧ True ∧ True) ∧ ∃ (_ : Unit), (∃ (x16 x17 : Nat), isG a.1 a.2 x16 x17 ∧ (0 : Int) ≤ turnG x16 x17) ∧ (0 = 0 ∧ 2 = 2 ∧ 2 =
2) ∧ True)) ∧ True) := by kernel_rfl
theorem g_gv1 (a : GvA) (hp : isGx a.g a.p) (hx : bigQ a.x) (hy : bigQ a.y) : GW (G_gv1 a) := by
 obtain ⟨k, j, hi⟩ := hp
 obtain ⟨x1, x2⟩ := hx
 obtain ⟨y1, y2⟩ := hy
 obtain ⟨f1, f2, f3, f4, f5, f6, f7, f8, f9, f10, f11⟩ := flG_of hi
 have f12 := fl11
 have f13 := fl00
 have f14 := glO
 refine ⟨?_⟩
 rw [vc_gv1]
 (repeat (refine And.intro ?_ ?_;focus((repeat' first|with_reducible(first|apply And.intro|assumption|rfl)|trivial|rfl); done)))
 refine ⟨⟨trivial, k, j, hi⟩, by (repeat' first|with_reducible(first|apply And.intro|assumption|rfl)|trivial|rfl), fun t ht => ?_, trivial⟩
 obtain ⟨k', j', hi', ht⟩ := ht
 obtain ⟨rfl, rfl⟩ := isG_inj hi hi'
 refine ⟨fun h0 => ?_, fun h0 => ?_⟩
 ·(repeat (refine And.intro ?_ ?_;focus((repeat' first|with_reducible(first|apply And.intro|assumption|rfl)|trivial|rfl); done)))
  intro x5 e5 x6 e6
  rw [wr64 (by omega)] at e5 e6
  (repeat (refine And.intro ?_ ?_;focus((repeat' first|with_reducible(first|apply And.intro|assumption|rfl)|trivial|rfl); done)))
  refine ⟨⟨trivial, ⟨k, j, hi, by omega⟩, by unfold rightQ; omega⟩, by (repeat' first|with_reducible(first|apply And.intro|assumption|rfl)|trivial|rfl), fun b hb => ?_, trivial⟩
  obtain ⟨k', j', hi', hb⟩ := hb
  obtain ⟨rfl, rfl⟩ := isG_inj hi hi'
  have e6' : x6 = a.x + a.y := by omega
  rw [e6'] at hb
  (repeat (refine And.intro ?_ ?_;focus((repeat' first|with_reducible(first|apply And.intro|assumption|rfl)|trivial|rfl); done)))
  refine ⟨b, ⟨k, j, hi, by omega, hb⟩, ?_⟩
  (repeat' first|with_reducible(first|apply And.intro|assumption|rfl)|trivial|rfl)
 ·(repeat (refine And.intro ?_ ?_;focus((repeat' first|with_reducible(first|apply And.intro|assumption|rfl)|trivial|rfl); done)))
  refine ⟨(), ⟨k, j, hi, by omega⟩, ?_⟩
  (repeat' first|with_reducible(first|apply And.intro|assumption|rfl)|trivial|rfl)
theorem s_gives1 : SpecOK Tryz.prog (S_gives 1).spec := fun a => specG_at (S := S_gives 1) (an := []) envOK cwGv_ok fun hp => g_gv1 a hp.1 hp.2.1 hp.2.2
set_option maxHeartbeats 3200000 in
theorem vc_gv2 (a : GvA) : G_gv2 a = ((True ∧ (∃ (x0 x1 : Nat), isG a.1 a.2 x0 x1)) ∧ ((0 = 0 ∧ QYq1P_4 a.2 ∧ True) ∧ QYq1P_1 a) ∧ (∀ (x2 : TnB), (∃ (x3 x4 : Nat), isG a.1 a.2 x3 x4 ∧ x2.1 = turnG x3 x4) → (x2.1 < 0 →
(True ∧ True ∧ True ∧ True ∧ True ∧ True ∧ True ∧ True ∧ True ∧ True ∧ True ∧ True) ∧ (∀ (x5 : Int), x5 = IntKind.wrap .i64 ((0 : Int) + a.3) → ∀ (x6 : Int), x6 = IntKind.wrap .i64
(x5 + a.4) → (True ∧ (∃ (x7 x8 : Nat), isG a.1 a.2 x7 x8 ∧ turnG x7 x8 < (0 : Int)) ∧ rightQ x6) ∧ ((0 = 0 ∧ QYq1P_4 a.2 ∧ x6 = x6 ∧ True) ∧ QYq1P_1 a) ∧ (∀ (x9 : XyB), (∃ (x10 x11
: Nat), isG a.1 a.2 x10 x11 ∧ payR x10 x11 x6 x9.1 x9.2) → ((True ∧ True) ∧ (True ∧ True) ∧ (True ∧ True) ∧ (W_G_gv2_0 a = W_G_gv2_0 a ∧ True) ∧ (True ∧ True) ∧ (True ∧ True) ∧
(True ∧ True) ∧ (W_G_gv2_0 a = W_G_gv2_0 a ∧ True) ∧ True ∧ True ∧ True ∧ True ∧ True ∧ True ∧ True ∧ True ∧ True) ∧ ∃ (x12 : XyB), (∃ (x13 x14 : Nat), isG a.1 a.2 x13 x14 ∧ turnG
x13 x14 < (0 : Int) ∧ payR x13 x14 (a.3 + a.4) x12.1 x12.2) ∧ (0 = 0 ∧ 2 = 2 ∧ 2 = 2) ∧ (2 = 2 ∧ x12.1 = x9.1 ∧ x12.2 = x9.2 ∧ True) ∧ True) ∧ True)) ∧ (¬(x2.1 < 0) → (True ∧ True
∧ True ∧ True ∧ True ∧ True ∧ True ∧ True ∧ True ∧ True ∧ True ∧ True) ∧ ∃ (_ : Unit), (∃ (x16 x17 : Nat), isG a.1 a.2 x16 x17 ∧ (0 : Int) ≤ turnG x16 x17) ∧ (0 = 0 ∧ 2 = 2 ∧ 2 =
2) ∧ True)) ∧ True) := by kernel_rfl
theorem g_gv2 (a : GvA) (hp : isGx a.g a.p) (hx : bigQ a.x) (hy : bigQ a.y) : GW (G_gv2 a) := by
 obtain ⟨k, j, hi⟩ := hp
 obtain ⟨x1, x2⟩ := hx
 obtain ⟨y1, y2⟩ := hy
 obtain ⟨f1, f2, f3, f4, f5, f6, f7, f8, f9, f10, f11⟩ := flG_of hi
 have f12 := fl11
 have f13 := fl00
 have f14 := glO
 refine ⟨?_⟩
 rw [vc_gv2]
 (repeat (refine And.intro ?_ ?_;focus((repeat' first|with_reducible(first|apply And.intro|assumption|rfl)|trivial|rfl); done)))
 refine ⟨⟨trivial, k, j, hi⟩, by (repeat' first|with_reducible(first|apply And.intro|assumption|rfl)|trivial|rfl), fun t ht => ?_, trivial⟩
 obtain ⟨k', j', hi', ht⟩ := ht
 obtain ⟨rfl, rfl⟩ := isG_inj hi hi'
 refine ⟨fun h0 => ?_, fun h0 => ?_⟩
 ·(repeat (refine And.intro ?_ ?_;focus((repeat' first|with_reducible(first|apply And.intro|assumption|rfl)|trivial|rfl); done)))
  intro x5 e5 x6 e6
  rw [wr64 (by omega)] at e5 e6
  (repeat (refine And.intro ?_ ?_;focus((repeat' first|with_reducible(first|apply And.intro|assumption|rfl)|trivial|rfl); done)))
  refine ⟨⟨trivial, ⟨k, j, hi, by omega⟩, by unfold rightQ; omega⟩, by (repeat' first|with_reducible(first|apply And.intro|assumption|rfl)|trivial|rfl), fun b hb => ?_, trivial⟩
  obtain ⟨k', j', hi', hb⟩ := hb
  obtain ⟨rfl, rfl⟩ := isG_inj hi hi'
  have e6' : x6 = a.x + a.y := by omega
  rw [e6'] at hb
  (repeat (refine And.intro ?_ ?_;focus((repeat' first|with_reducible(first|apply And.intro|assumption|rfl)|trivial|rfl); done)))
  refine ⟨b, ⟨k, j, hi, by omega, hb⟩, ?_⟩
  (repeat' first|with_reducible(first|apply And.intro|assumption|rfl)|trivial|rfl)
 ·(repeat (refine And.intro ?_ ?_;focus((repeat' first|with_reducible(first|apply And.intro|assumption|rfl)|trivial|rfl); done)))
  refine ⟨(), ⟨k, j, hi, by omega⟩, ?_⟩
  (repeat' first|with_reducible(first|apply And.intro|assumption|rfl)|trivial|rfl)
theorem s_gives2 : SpecOK Tryz.prog (S_gives 2).spec := fun a => specG_at (S := S_gives 2) (an := []) envOK cwGv_ok fun hp => g_gv2 a hp.1 hp.2.1 hp.2.2
set_option maxHeartbeats 3200000 in
theorem vc_gv3 (a : GvA) : G_gv3 a = ((True ∧ (∃ (x0 x1 : Nat), isG a.1 a.2 x0 x1)) ∧ ((0 = 0 ∧ QYq1P_4 a.2 ∧ True) ∧ QYq1P_1 a) ∧ (∀ (x2 : TnB), (∃ (x3 x4 : Nat), isG a.1 a.2 x3 x4 ∧ x2.1 = turnG x3 x4) → (x2.1 < 0 →
(True ∧ True ∧ True ∧ True ∧ True ∧ True ∧ True ∧ True ∧ True ∧ True ∧ True ∧ True) ∧ (∀ (x5 : Int), x5 = IntKind.wrap .i64 ((0 : Int) + a.3) → ∀ (x6 : Int), x6 = IntKind.wrap .i64
(x5 + a.4) → (True ∧ (∃ (x7 x8 : Nat), isG a.1 a.2 x7 x8 ∧ turnG x7 x8 < (0 : Int)) ∧ rightQ x6) ∧ ((0 = 0 ∧ QYq1P_4 a.2 ∧ x6 = x6 ∧ True) ∧ QYq1P_1 a) ∧ (∀ (x9 : XyB), (∃ (x10 x11
: Nat), isG a.1 a.2 x10 x11 ∧ payR x10 x11 x6 x9.1 x9.2) → ((True ∧ True) ∧ (True ∧ True) ∧ (True ∧ True) ∧ (W_G_gv3_0 a = W_G_gv3_0 a ∧ True) ∧ (True ∧ True) ∧ (True ∧ True) ∧
(True ∧ True) ∧ (W_G_gv3_0 a = W_G_gv3_0 a ∧ True) ∧ True ∧ True ∧ True ∧ True ∧ True ∧ True ∧ True ∧ True ∧ True) ∧ ∃ (x12 : XyB), (∃ (x13 x14 : Nat), isG a.1 a.2 x13 x14 ∧ turnG
x13 x14 < (0 : Int) ∧ payR x13 x14 (a.3 + a.4) x12.1 x12.2) ∧ (0 = 0 ∧ 2 = 2 ∧ 2 = 2) ∧ (2 = 2 ∧ x12.1 = x9.1 ∧ x12.2 = x9.2 ∧ True) ∧ True) ∧ True)) ∧ (¬(x2.1 < 0) → (True ∧ True
∧ True ∧ True ∧ True ∧ True ∧ True ∧ True ∧ True ∧ True ∧ True ∧ True) ∧ ∃ (_ : Unit), (∃ (x16 x17 : Nat), isG a.1 a.2 x16 x17 ∧ (0 : Int) ≤ turnG x16 x17) ∧ (0 = 0 ∧ 2 = 2 ∧ 2 =
2) ∧ True)) ∧ True) := by kernel_rfl
theorem g_gv3 (a : GvA) (hp : isGx a.g a.p) (hx : bigQ a.x) (hy : bigQ a.y) : GW (G_gv3 a) := by
 obtain ⟨k, j, hi⟩ := hp
 obtain ⟨x1, x2⟩ := hx
 obtain ⟨y1, y2⟩ := hy
 obtain ⟨f1, f2, f3, f4, f5, f6, f7, f8, f9, f10, f11⟩ := flG_of hi
 have f12 := fl11
 have f13 := fl00
 have f14 := glO
 refine ⟨?_⟩
 rw [vc_gv3]
 (repeat (refine And.intro ?_ ?_;focus((repeat' first|with_reducible(first|apply And.intro|assumption|rfl)|trivial|rfl); done)))
 refine ⟨⟨trivial, k, j, hi⟩, by (repeat' first|with_reducible(first|apply And.intro|assumption|rfl)|trivial|rfl), fun t ht => ?_, trivial⟩
 obtain ⟨k', j', hi', ht⟩ := ht
 obtain ⟨rfl, rfl⟩ := isG_inj hi hi'
 refine ⟨fun h0 => ?_, fun h0 => ?_⟩
 ·(repeat (refine And.intro ?_ ?_;focus((repeat' first|with_reducible(first|apply And.intro|assumption|rfl)|trivial|rfl); done)))
  intro x5 e5 x6 e6
  rw [wr64 (by omega)] at e5 e6
  (repeat (refine And.intro ?_ ?_;focus((repeat' first|with_reducible(first|apply And.intro|assumption|rfl)|trivial|rfl); done)))
  refine ⟨⟨trivial, ⟨k, j, hi, by omega⟩, by unfold rightQ; omega⟩, by (repeat' first|with_reducible(first|apply And.intro|assumption|rfl)|trivial|rfl), fun b hb => ?_, trivial⟩
  obtain ⟨k', j', hi', hb⟩ := hb
  obtain ⟨rfl, rfl⟩ := isG_inj hi hi'
  have e6' : x6 = a.x + a.y := by omega
  rw [e6'] at hb
  (repeat (refine And.intro ?_ ?_;focus((repeat' first|with_reducible(first|apply And.intro|assumption|rfl)|trivial|rfl); done)))
  refine ⟨b, ⟨k, j, hi, by omega, hb⟩, ?_⟩
  (repeat' first|with_reducible(first|apply And.intro|assumption|rfl)|trivial|rfl)
 ·(repeat (refine And.intro ?_ ?_;focus((repeat' first|with_reducible(first|apply And.intro|assumption|rfl)|trivial|rfl); done)))
  refine ⟨(), ⟨k, j, hi, by omega⟩, ?_⟩
  (repeat' first|with_reducible(first|apply And.intro|assumption|rfl)|trivial|rfl)
theorem s_gives3 : SpecOK Tryz.prog (S_gives 3).spec := fun a => specG_at (S := S_gives 3) (an := []) envOK cwGv_ok fun hp => g_gv3 a hp.1 hp.2.1 hp.2.2
theorem vc_pg10 (a : PgA) : G_pg10 a = ((True ∧ isGx a.1.1.1 a.1.1.2 ∧ (0 ≤ a.2 ∧ a.2 ≤ 100000000) ∧ 0 ≤ a.3 ∧ a.3 ≤ 100000000) ∧ ((0 = 0 ∧ (0 = 0 ∧ 2 = 2 ∧ 2 = 2) ∧ True) ∧ QYq1P_3 a.1.1.2 ∧ (True ∧ Z1 a.2 ∧ Z1 a.3 ∧
True) ∧ QYq1P_1 a.1.1) ∧ QYq1P_2 a.1.1.1 a.1.1.2 a.2 a.3) := by kernel_rfl
theorem g_pg10 (a : PgA) (hp : isGx (pyI 0 a.t).g (pyI 0 a.t).p) (hx : bigQ a.x) (hy : bigQ a.y) : GW (G_pg10 a) := by
 have hp0 := hp
 obtain ⟨k, j, hi⟩ := hp
 have hi : isG a.t.a.g a.t.a.p k j := hi
 obtain ⟨f1, f2, f3, f4, f5, f6, f7, f8, f9, f10, f11⟩ := flG_of hi
 have f12 := fl11
 have f13 := fl00
 have f14 := glO
 refine ⟨?_⟩
 rw [vc_pg10]
 (repeat (refine And.intro ?_ ?_;focus((repeat' first|with_reducible(first|apply And.intro|assumption|rfl)|trivial|rfl); done)))
 refine ⟨⟨trivial, hp0, hx, hy⟩, by (repeat' first|with_reducible(first|apply And.intro|assumption|rfl)|trivial|rfl), fun u hu => ?_, fun b hb => ?_, trivial⟩
 ·(repeat (refine And.intro ?_ ?_;focus((repeat' first|with_reducible(first|apply And.intro|assumption|rfl)|trivial|rfl); done)))
  refine ⟨(), hu, ?_⟩
  (repeat' first|with_reducible(first|apply And.intro|assumption|rfl)|trivial|rfl)
 ·(repeat (refine And.intro ?_ ?_;focus((repeat' first|with_reducible(first|apply And.intro|assumption|rfl)|trivial|rfl); done)))
  refine ⟨b, hb, ?_⟩
  (repeat' first|with_reducible(first|apply And.intro|assumption|rfl)|trivial|rfl)
theorem s_pgv10 : SpecOK Tryz.prog (S_pgv 1 0).spec := fun a K hp hq => spec_call (S := S_gives 0) (T := S_pgv 1 0) (b := a) rfl s_gives0 (g_pg10 a hp.1 hp.2.1 hp.2.2).h K hp hq
theorem vc_pg20 (a : PgA) : G_pg20 a = ((True ∧ isGx a.1.1.1 a.1.1.2 ∧ (0 ≤ a.2 ∧ a.2 ≤ 100000000) ∧ 0 ≤ a.3 ∧ a.3 ≤ 100000000) ∧ ((0 = 0 ∧ (0 = 0 ∧ 2 = 2 ∧ 2 = 2) ∧ True) ∧ QYq1P_3 a.1.1.2 ∧ (True ∧ Z1 a.2 ∧ Z1 a.3 ∧
True) ∧ QYq1P_1 a.1.1) ∧ QYq1P_2 a.1.1.1 a.1.1.2 a.2 a.3) := by kernel_rfl
theorem g_pg20 (a : PgA) (hp : isGx (pyI 0 a.t).g (pyI 0 a.t).p) (hx : bigQ a.x) (hy : bigQ a.y) : GW (G_pg20 a) := by
 have hp0 := hp
 obtain ⟨k, j, hi⟩ := hp
 have hi : isG a.t.a.g a.t.a.p k j := hi
 obtain ⟨f1, f2, f3, f4, f5, f6, f7, f8, f9, f10, f11⟩ := flG_of hi
 have f12 := fl11
 have f13 := fl00
 have f14 := glO
 refine ⟨?_⟩
 rw [vc_pg20]
 (repeat (refine And.intro ?_ ?_;focus((repeat' first|with_reducible(first|apply And.intro|assumption|rfl)|trivial|rfl); done)))
 refine ⟨⟨trivial, hp0, hx, hy⟩, by (repeat' first|with_reducible(first|apply And.intro|assumption|rfl)|trivial|rfl), fun u hu => ?_, fun b hb => ?_, trivial⟩
 ·(repeat (refine And.intro ?_ ?_;focus((repeat' first|with_reducible(first|apply And.intro|assumption|rfl)|trivial|rfl); done)))
  refine ⟨(), hu, ?_⟩
  (repeat' first|with_reducible(first|apply And.intro|assumption|rfl)|trivial|rfl)
 ·(repeat (refine And.intro ?_ ?_;focus((repeat' first|with_reducible(first|apply And.intro|assumption|rfl)|trivial|rfl); done)))
  refine ⟨b, hb, ?_⟩
  (repeat' first|with_reducible(first|apply And.intro|assumption|rfl)|trivial|rfl)
theorem s_pgv20 : SpecOK Tryz.prog (S_pgv 2 0).spec := fun a K hp hq => spec_call (S := S_gives 0) (T := S_pgv 2 0) (b := a) rfl s_gives0 (g_pg20 a hp.1 hp.2.1 hp.2.2).h K hp hq
theorem vc_pg21 (a : PgA) : G_pg21 a = ((True ∧ isGx a.1.2.1 a.1.2.2 ∧ (0 ≤ a.2 ∧ a.2 ≤ 100000000) ∧ 0 ≤ a.3 ∧ a.3 ≤ 100000000) ∧ ((10 = 10 ∧ (0 = 0 ∧ 2 = 2 ∧ 2 = 2) ∧ True) ∧ (True ∧ True ∧ True ∧ True ∧ True ∧ True ∧
True ∧ True ∧ True ∧ True ∧ QYq1P_3 a.1.2.2) ∧ (True ∧ Z1 a.2 ∧ Z1 a.3 ∧ True) ∧ QYq1P_1 a.1.2) ∧ QYq1P_2 a.1.2.1 a.1.2.2 a.2 a.3) := by kernel_rfl
theorem g_pg21 (a : PgA) (hp : isGx (pyI 1 a.t).g (pyI 1 a.t).p) (hx : bigQ a.x) (hy : bigQ a.y) : GW (G_pg21 a) := by
 have hp0 := hp
 obtain ⟨k, j, hi⟩ := hp
 have hi : isG a.t.b.g a.t.b.p k j := hi
 obtain ⟨f1, f2, f3, f4, f5, f6, f7, f8, f9, f10, f11⟩ := flG_of hi
 have f12 := fl11
 have f13 := fl00
 have f14 := glO
 refine ⟨?_⟩
 rw [vc_pg21]
 (repeat (refine And.intro ?_ ?_;focus((repeat' first|with_reducible(first|apply And.intro|assumption|rfl)|trivial|rfl); done)))
 refine ⟨⟨trivial, hp0, hx, hy⟩, by (repeat' first|with_reducible(first|apply And.intro|assumption|rfl)|trivial|rfl), fun u hu => ?_, fun b hb => ?_, trivial⟩
 ·(repeat (refine And.intro ?_ ?_;focus((repeat' first|with_reducible(first|apply And.intro|assumption|rfl)|trivial|rfl); done)))
  refine ⟨(), hu, ?_⟩
  (repeat' first|with_reducible(first|apply And.intro|assumption|rfl)|trivial|rfl)
 ·(repeat (refine And.intro ?_ ?_;focus((repeat' first|with_reducible(first|apply And.intro|assumption|rfl)|trivial|rfl); done)))
  refine ⟨b, hb, ?_⟩
  (repeat' first|with_reducible(first|apply And.intro|assumption|rfl)|trivial|rfl)
theorem s_pgv21 : SpecOK Tryz.prog (S_pgv 2 1).spec := fun a K hp hq => spec_call (S := S_gives 1) (T := S_pgv 2 1) (b := a) rfl s_gives1 (g_pg21 a hp.1 hp.2.1 hp.2.2).h K hp hq
theorem vc_pg30 (a : PgA) : G_pg30 a = ((True ∧ isGx a.1.1.1 a.1.1.2 ∧ (0 ≤ a.2 ∧ a.2 ≤ 100000000) ∧ 0 ≤ a.3 ∧ a.3 ≤ 100000000) ∧ ((0 = 0 ∧ (0 = 0 ∧ 2 = 2 ∧ 2 = 2) ∧ True) ∧ QYq1P_3 a.1.1.2 ∧ (True ∧ Z1 a.2 ∧ Z1 a.3 ∧
True) ∧ QYq1P_1 a.1.1) ∧ QYq1P_2 a.1.1.1 a.1.1.2 a.2 a.3) := by kernel_rfl
theorem g_pg30 (a : PgA) (hp : isGx (pyI 0 a.t).g (pyI 0 a.t).p) (hx : bigQ a.x) (hy : bigQ a.y) : GW (G_pg30 a) := by
 have hp0 := hp
 obtain ⟨k, j, hi⟩ := hp
 have hi : isG a.t.a.g a.t.a.p k j := hi
 obtain ⟨f1, f2, f3, f4, f5, f6, f7, f8, f9, f10, f11⟩ := flG_of hi
 have f12 := fl11
 have f13 := fl00
 have f14 := glO
 refine ⟨?_⟩
 rw [vc_pg30]
 (repeat (refine And.intro ?_ ?_;focus((repeat' first|with_reducible(first|apply And.intro|assumption|rfl)|trivial|rfl); done)))
 refine ⟨⟨trivial, hp0, hx, hy⟩, by (repeat' first|with_reducible(first|apply And.intro|assumption|rfl)|trivial|rfl), fun u hu => ?_, fun b hb => ?_, trivial⟩
 ·(repeat (refine And.intro ?_ ?_;focus((repeat' first|with_reducible(first|apply And.intro|assumption|rfl)|trivial|rfl); done)))
  refine ⟨(), hu, ?_⟩
  (repeat' first|with_reducible(first|apply And.intro|assumption|rfl)|trivial|rfl)
 ·(repeat (refine And.intro ?_ ?_;focus((repeat' first|with_reducible(first|apply And.intro|assumption|rfl)|trivial|rfl); done)))
  refine ⟨b, hb, ?_⟩
  (repeat' first|with_reducible(first|apply And.intro|assumption|rfl)|trivial|rfl)
theorem s_pgv30 : SpecOK Tryz.prog (S_pgv 3 0).spec := fun a K hp hq => spec_call (S := S_gives 0) (T := S_pgv 3 0) (b := a) rfl s_gives0 (g_pg30 a hp.1 hp.2.1 hp.2.2).h K hp hq
theorem vc_pg31 (a : PgA) : G_pg31 a = ((True ∧ isGx a.1.2.1 a.1.2.2 ∧ (0 ≤ a.2 ∧ a.2 ≤ 100000000) ∧ 0 ≤ a.3 ∧ a.3 ≤ 100000000) ∧ ((10 = 10 ∧ (0 = 0 ∧ 2 = 2 ∧ 2 = 2) ∧ True) ∧ (True ∧ True ∧ True ∧ True ∧ True ∧ True ∧
True ∧ True ∧ True ∧ True ∧ QYq1P_3 a.1.2.2) ∧ (True ∧ Z1 a.2 ∧ Z1 a.3 ∧ True) ∧ QYq1P_1 a.1.2) ∧ QYq1P_2 a.1.2.1 a.1.2.2 a.2 a.3) := by kernel_rfl
theorem g_pg31 (a : PgA) (hp : isGx (pyI 1 a.t).g (pyI 1 a.t).p) (hx : bigQ a.x) (hy : bigQ a.y) : GW (G_pg31 a) := by
 have hp0 := hp
 obtain ⟨k, j, hi⟩ := hp
 have hi : isG a.t.b.g a.t.b.p k j := hi
 obtain ⟨f1, f2, f3, f4, f5, f6, f7, f8, f9, f10, f11⟩ := flG_of hi
 have f12 := fl11
 have f13 := fl00
 have f14 := glO
 refine ⟨?_⟩
 rw [vc_pg31]
 (repeat (refine And.intro ?_ ?_;focus((repeat' first|with_reducible(first|apply And.intro|assumption|rfl)|trivial|rfl); done)))
 refine ⟨⟨trivial, hp0, hx, hy⟩, by (repeat' first|with_reducible(first|apply And.intro|assumption|rfl)|trivial|rfl), fun u hu => ?_, fun b hb => ?_, trivial⟩
 ·(repeat (refine And.intro ?_ ?_;focus((repeat' first|with_reducible(first|apply And.intro|assumption|rfl)|trivial|rfl); done)))
  refine ⟨(), hu, ?_⟩
  (repeat' first|with_reducible(first|apply And.intro|assumption|rfl)|trivial|rfl)
 ·(repeat (refine And.intro ?_ ?_;focus((repeat' first|with_reducible(first|apply And.intro|assumption|rfl)|trivial|rfl); done)))
  refine ⟨b, hb, ?_⟩
  (repeat' first|with_reducible(first|apply And.intro|assumption|rfl)|trivial|rfl)
theorem s_pgv31 : SpecOK Tryz.prog (S_pgv 3 1).spec := fun a K hp hq => spec_call (S := S_gives 1) (T := S_pgv 3 1) (b := a) rfl s_gives1 (g_pg31 a hp.1 hp.2.1 hp.2.2).h K hp hq
theorem vc_pg32 (a : PgA) : G_pg32 a = ((True ∧ isGx a.1.3.1 a.1.3.2 ∧ (0 ≤ a.2 ∧ a.2 ≤ 100000000) ∧ 0 ≤ a.3 ∧ a.3 ≤ 100000000) ∧ ((20 = 20 ∧ (0 = 0 ∧ 2 = 2 ∧ 2 = 2) ∧ True) ∧ (True ∧ True ∧ True ∧ True ∧ True ∧ True ∧
True ∧ True ∧ True ∧ True ∧ True ∧ True ∧ True ∧ True ∧ True ∧ True ∧ True ∧ True ∧ True ∧ True ∧ QYq1P_3 a.1.3.2) ∧ (True ∧ Z1 a.2 ∧ Z1 a.3 ∧ True) ∧ QYq1P_1 a.1.3) ∧ QYq1P_2
a.1.3.1 a.1.3.2 a.2 a.3) := by kernel_rfl
theorem g_pg32 (a : PgA) (hp : isGx (pyI 2 a.t).g (pyI 2 a.t).p) (hx : bigQ a.x) (hy : bigQ a.y) : GW (G_pg32 a) := by
 have hp0 := hp
 obtain ⟨k, j, hi⟩ := hp
 have hi : isG a.t.c.g a.t.c.p k j := hi
 obtain ⟨f1, f2, f3, f4, f5, f6, f7, f8, f9, f10, f11⟩ := flG_of hi
 have f12 := fl11
 have f13 := fl00
 have f14 := glO
 refine ⟨?_⟩
 rw [vc_pg32]
 (repeat (refine And.intro ?_ ?_;focus((repeat' first|with_reducible(first|apply And.intro|assumption|rfl)|trivial|rfl); done)))
 refine ⟨⟨trivial, hp0, hx, hy⟩, by (repeat' first|with_reducible(first|apply And.intro|assumption|rfl)|trivial|rfl), fun u hu => ?_, fun b hb => ?_, trivial⟩
 ·(repeat (refine And.intro ?_ ?_;focus((repeat' first|with_reducible(first|apply And.intro|assumption|rfl)|trivial|rfl); done)))
  refine ⟨(), hu, ?_⟩
  (repeat' first|with_reducible(first|apply And.intro|assumption|rfl)|trivial|rfl)
 ·(repeat (refine And.intro ?_ ?_;focus((repeat' first|with_reducible(first|apply And.intro|assumption|rfl)|trivial|rfl); done)))
  refine ⟨b, hb, ?_⟩
  (repeat' first|with_reducible(first|apply And.intro|assumption|rfl)|trivial|rfl)
theorem s_pgv32 : SpecOK Tryz.prog (S_pgv 3 2).spec := fun a K hp hq => spec_call (S := S_gives 2) (T := S_pgv 3 2) (b := a) rfl s_gives2 (g_pg32 a hp.1 hp.2.1 hp.2.2).h K hp hq
theorem vc_pg40 (a : PgA) : G_pg40 a = ((True ∧ isGx a.1.1.1 a.1.1.2 ∧ (0 ≤ a.2 ∧ a.2 ≤ 100000000) ∧ 0 ≤ a.3 ∧ a.3 ≤ 100000000) ∧ ((0 = 0 ∧ (0 = 0 ∧ 2 = 2 ∧ 2 = 2) ∧ True) ∧ QYq1P_3 a.1.1.2 ∧ (True ∧ Z1 a.2 ∧ Z1 a.3 ∧
True) ∧ QYq1P_1 a.1.1) ∧ QYq1P_2 a.1.1.1 a.1.1.2 a.2 a.3) := by kernel_rfl
theorem g_pg40 (a : PgA) (hp : isGx (pyI 0 a.t).g (pyI 0 a.t).p) (hx : bigQ a.x) (hy : bigQ a.y) : GW (G_pg40 a) := by
 have hp0 := hp
 obtain ⟨k, j, hi⟩ := hp
 have hi : isG a.t.a.g a.t.a.p k j := hi
 obtain ⟨f1, f2, f3, f4, f5, f6, f7, f8, f9, f10, f11⟩ := flG_of hi
 have f12 := fl11
 have f13 := fl00
 have f14 := glO
 refine ⟨?_⟩
 rw [vc_pg40]
 (repeat (refine And.intro ?_ ?_;focus((repeat' first|with_reducible(first|apply And.intro|assumption|rfl)|trivial|rfl); done)))
 refine ⟨⟨trivial, hp0, hx, hy⟩, by (repeat' first|with_reducible(first|apply And.intro|assumption|rfl)|trivial|rfl), fun u hu => ?_, fun b hb => ?_, trivial⟩
 ·(repeat (refine And.intro ?_ ?_;focus((repeat' first|with_reducible(first|apply And.intro|assumption|rfl)|trivial|rfl); done)))
  refine ⟨(), hu, ?_⟩
  (repeat' first|with_reducible(first|apply And.intro|assumption|rfl)|trivial|rfl)
 ·(repeat (refine And.intro ?_ ?_;focus((repeat' first|with_reducible(first|apply And.intro|assumption|rfl)|trivial|rfl); done)))
  refine ⟨b, hb, ?_⟩
  (repeat' first|with_reducible(first|apply And.intro|assumption|rfl)|trivial|rfl)
theorem s_pgv40 : SpecOK Tryz.prog (S_pgv 4 0).spec := fun a K hp hq => spec_call (S := S_gives 0) (T := S_pgv 4 0) (b := a) rfl s_gives0 (g_pg40 a hp.1 hp.2.1 hp.2.2).h K hp hq
theorem vc_pg41 (a : PgA) : G_pg41 a = ((True ∧ isGx a.1.2.1 a.1.2.2 ∧ (0 ≤ a.2 ∧ a.2 ≤ 100000000) ∧ 0 ≤ a.3 ∧ a.3 ≤ 100000000) ∧ ((10 = 10 ∧ (0 = 0 ∧ 2 = 2 ∧ 2 = 2) ∧ True) ∧ (True ∧ True ∧ True ∧ True ∧ True ∧ True ∧
True ∧ True ∧ True ∧ True ∧ QYq1P_3 a.1.2.2) ∧ (True ∧ Z1 a.2 ∧ Z1 a.3 ∧ True) ∧ QYq1P_1 a.1.2) ∧ QYq1P_2 a.1.2.1 a.1.2.2 a.2 a.3) := by kernel_rfl
theorem g_pg41 (a : PgA) (hp : isGx (pyI 1 a.t).g (pyI 1 a.t).p) (hx : bigQ a.x) (hy : bigQ a.y) : GW (G_pg41 a) := by
 have hp0 := hp
 obtain ⟨k, j, hi⟩ := hp
 have hi : isG a.t.b.g a.t.b.p k j := hi
 obtain ⟨f1, f2, f3, f4, f5, f6, f7, f8, f9, f10, f11⟩ := flG_of hi
 have f12 := fl11
 have f13 := fl00
 have f14 := glO
 refine ⟨?_⟩
 rw [vc_pg41]
 (repeat (refine And.intro ?_ ?_;focus((repeat' first|with_reducible(first|apply And.intro|assumption|rfl)|trivial|rfl); done)))
 refine ⟨⟨trivial, hp0, hx, hy⟩, by (repeat' first|with_reducible(first|apply And.intro|assumption|rfl)|trivial|rfl), fun u hu => ?_, fun b hb => ?_, trivial⟩
 ·(repeat (refine And.intro ?_ ?_;focus((repeat' first|with_reducible(first|apply And.intro|assumption|rfl)|trivial|rfl); done)))
  refine ⟨(), hu, ?_⟩
  (repeat' first|with_reducible(first|apply And.intro|assumption|rfl)|trivial|rfl)
 ·(repeat (refine And.intro ?_ ?_;focus((repeat' first|with_reducible(first|apply And.intro|assumption|rfl)|trivial|rfl); done)))
  refine ⟨b, hb, ?_⟩
  (repeat' first|with_reducible(first|apply And.intro|assumption|rfl)|trivial|rfl)
theorem s_pgv41 : SpecOK Tryz.prog (S_pgv 4 1).spec := fun a K hp hq => spec_call (S := S_gives 1) (T := S_pgv 4 1) (b := a) rfl s_gives1 (g_pg41 a hp.1 hp.2.1 hp.2.2).h K hp hq
theorem vc_pg42 (a : PgA) : G_pg42 a = ((True ∧ isGx a.1.3.1 a.1.3.2 ∧ (0 ≤ a.2 ∧ a.2 ≤ 100000000) ∧ 0 ≤ a.3 ∧ a.3 ≤ 100000000) ∧ ((20 = 20 ∧ (0 = 0 ∧ 2 = 2 ∧ 2 = 2) ∧ True) ∧ (True ∧ True ∧ True ∧ True ∧ True ∧ True ∧
True ∧ True ∧ True ∧ True ∧ True ∧ True ∧ True ∧ True ∧ True ∧ True ∧ True ∧ True ∧ True ∧ True ∧ QYq1P_3 a.1.3.2) ∧ (True ∧ Z1 a.2 ∧ Z1 a.3 ∧ True) ∧ QYq1P_1 a.1.3) ∧ QYq1P_2
a.1.3.1 a.1.3.2 a.2 a.3) := by kernel_rfl
theorem g_pg42 (a : PgA) (hp : isGx (pyI 2 a.t).g (pyI 2 a.t).p) (hx : bigQ a.x) (hy : bigQ a.y) : GW (G_pg42 a) := by
 have hp0 := hp
 obtain ⟨k, j, hi⟩ := hp
 have hi : isG a.t.c.g a.t.c.p k j := hi
 obtain ⟨f1, f2, f3, f4, f5, f6, f7, f8, f9, f10, f11⟩ := flG_of hi
 have f12 := fl11
 have f13 := fl00
 have f14 := glO
 refine ⟨?_⟩
 rw [vc_pg42]
 (repeat (refine And.intro ?_ ?_;focus((repeat' first|with_reducible(first|apply And.intro|assumption|rfl)|trivial|rfl); done)))
 refine ⟨⟨trivial, hp0, hx, hy⟩, by (repeat' first|with_reducible(first|apply And.intro|assumption|rfl)|trivial|rfl), fun u hu => ?_, fun b hb => ?_, trivial⟩
 ·(repeat (refine And.intro ?_ ?_;focus((repeat' first|with_reducible(first|apply And.intro|assumption|rfl)|trivial|rfl); done)))
  refine ⟨(), hu, ?_⟩
  (repeat' first|with_reducible(first|apply And.intro|assumption|rfl)|trivial|rfl)
 ·(repeat (refine And.intro ?_ ?_;focus((repeat' first|with_reducible(first|apply And.intro|assumption|rfl)|trivial|rfl); done)))
  refine ⟨b, hb, ?_⟩
  (repeat' first|with_reducible(first|apply And.intro|assumption|rfl)|trivial|rfl)
theorem s_pgv42 : SpecOK Tryz.prog (S_pgv 4 2).spec := fun a K hp hq => spec_call (S := S_gives 2) (T := S_pgv 4 2) (b := a) rfl s_gives2 (g_pg42 a hp.1 hp.2.1 hp.2.2).h K hp hq
theorem vc_pg43 (a : PgA) : G_pg43 a = ((True ∧ isGx a.1.4.1 a.1.4.2 ∧ (0 ≤ a.2 ∧ a.2 ≤ 100000000) ∧ 0 ≤ a.3 ∧ a.3 ≤ 100000000) ∧ ((30 = 30 ∧ (0 = 0 ∧ 2 = 2 ∧ 2 = 2) ∧ True) ∧ (True ∧ True ∧ True ∧ True ∧ True ∧ True ∧
True ∧ True ∧ True ∧ True ∧ True ∧ True ∧ True ∧ True ∧ True ∧ True ∧ True ∧ True ∧ True ∧ True ∧ True ∧ True ∧ True ∧ True ∧ True ∧ True ∧ True ∧ True ∧ True ∧ True ∧ QYq1P_3
a.1.4.2) ∧ (True ∧ Z1 a.2 ∧ Z1 a.3 ∧ True) ∧ QYq1P_1 a.1.4) ∧ QYq1P_2 a.1.4.1 a.1.4.2 a.2 a.3) := by kernel_rfl
theorem g_pg43 (a : PgA) (hp : isGx (pyI 3 a.t).g (pyI 3 a.t).p) (hx : bigQ a.x) (hy : bigQ a.y) : GW (G_pg43 a) := by
 have hp0 := hp
 obtain ⟨k, j, hi⟩ := hp
 have hi : isG a.t.e.g a.t.e.p k j := hi
 obtain ⟨f1, f2, f3, f4, f5, f6, f7, f8, f9, f10, f11⟩ := flG_of hi
 have f12 := fl11
 have f13 := fl00
 have f14 := glO
 refine ⟨?_⟩
 rw [vc_pg43]
 (repeat (refine And.intro ?_ ?_;focus((repeat' first|with_reducible(first|apply And.intro|assumption|rfl)|trivial|rfl); done)))
 refine ⟨⟨trivial, hp0, hx, hy⟩, by (repeat' first|with_reducible(first|apply And.intro|assumption|rfl)|trivial|rfl), fun u hu => ?_, fun b hb => ?_, trivial⟩
 ·(repeat (refine And.intro ?_ ?_;focus((repeat' first|with_reducible(first|apply And.intro|assumption|rfl)|trivial|rfl); done)))
  refine ⟨(), hu, ?_⟩
  (repeat' first|with_reducible(first|apply And.intro|assumption|rfl)|trivial|rfl)
 ·(repeat (refine And.intro ?_ ?_;focus((repeat' first|with_reducible(first|apply And.intro|assumption|rfl)|trivial|rfl); done)))
  refine ⟨b, hb, ?_⟩
  (repeat' first|with_reducible(first|apply And.intro|assumption|rfl)|trivial|rfl)
theorem s_pgv43 : SpecOK Tryz.prog (S_pgv 4 3).spec := fun a K hp hq => spec_call (S := S_gives 3) (T := S_pgv 4 3) (b := a) rfl s_gives3 (g_pg43 a hp.1 hp.2.1 hp.2.2).h K hp hq
end Go.Proofs.YtfkacmmcgncooaaGreatDoor
