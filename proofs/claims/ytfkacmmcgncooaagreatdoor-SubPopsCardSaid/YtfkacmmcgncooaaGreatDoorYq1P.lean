/- Tables within tables: what one table gives is as is told. -/
import Derived.Test.YtfkacmmcgncooaaGreatDoorYh1P
import Derived.Test.YtfkacmmcgncooaaGreatDoorYn1
section
set_option maxRecDepth 100000
namespace Go.Proofs.YtfkacmmcgncooaaGreatDoor
open Go.Ev
set_option linter.unusedSectionVars false
variable [Go.Ev.Frozen Tryz.prog]
noncomputable section
def W_G_gv0_0 : GvA -> Option AO := fun (a : GvA) => some (AO.row ([] ++ [Zp 13 0, sc 25 2, sc 26 2, sc 27 2, tgI .i64 a.2.4, tgI .i64 a.2.5, tgI .i64 a.2.6, tgI .i64 a.2.7, tgI
 .u64 a.2.8, unk]) 83 Md.gro)
def W_G_gv1_0 : GvA -> Option AO := fun (a : GvA) => some (AO.row ([unk, unk, unk, unk, unk, unk, unk, unk, unk, unk] ++ [Zp 13 0, sc 25 2, sc 26 2, sc 27 2, tgI .i64 a.2.4, tgI
 .i64 a.2.5, tgI .i64 a.2.6, tgI .i64 a.2.7, tgI .u64 a.2.8, unk]) 83 Md.gro)
def W_G_gv2_0 : GvA -> Option AO := fun (a : GvA) => some (AO.row ([unk, unk, unk, unk, unk, unk, unk, unk, unk, unk, unk, unk, unk, unk, unk, unk, unk, unk, unk, unk] ++ [Zp 13 0,
 sc 25 2, sc 26 2, sc 27 2, tgI .i64 a.2.4, tgI .i64 a.2.5, tgI .i64 a.2.6, tgI .i64 a.2.7, tgI .u64 a.2.8, unk]) 83 Md.gro)
def W_G_gv3_0 : GvA -> Option AO := fun (a : GvA) => some (AO.row ([unk, unk, unk, unk, unk, unk, unk, unk, unk, unk, unk, unk, unk, unk, unk, unk, unk, unk, unk, unk, unk, unk,
 unk, unk, unk, unk, unk, unk, unk, unk] ++ [Zp 13 0, sc 25 2, sc 26 2, sc 27 2, tgI .i64 a.2.4, tgI .i64 a.2.5, tgI .i64 a.2.6, tgI .i64 a.2.7, tgI .u64 a.2.8, unk]) 83 Md.gro)
end
theorem cwGv_ok : CwOK Tryz.prog cwGv := cwX_ok (fun _ h => cwD_ok s_gturn (cwD_ok s_gpays h)) 3
set_option maxHeartbeats 3200000 in
abbrev QYq1P_1 (a0 : GvA) : Prop := (True /\ True /\ (0 = 0 /\ 2 = 2 /\ 2 = 2) /\ Z1 a0.1.19.1 /\ Z1 a0.1.19.2 /\ Z1 a0.1.19.3 /\ Z1 a0.1.19.4 /\ Z1 a0.1.19.5 /\ Z1 a0.1.19.6 /\ Z1 a0.1.19.7
 /\ Z1 a0.1.19.8 /\ 0 = 0 /\ (0 = 0 /\ 1 = 1 /\ 1 = 1) /\ (0 = 0 /\ 2 = 2 /\ 2 = 2) /\ True) /\ (True /\ FlatL [Value.int .i64 1, Value.int .i64 1] /\ [Value.int .i64 1, Value.int .i64 1] =
 [Value.int .i64 1, Value.int .i64 1]) /\ (True /\ (2 : Int) = 2 /\ (2 : Int) = 2 /\ (0 = 0 /\ 2 = 2 /\ 2 = 2) /\ (0 = 0 /\ 1 = 1 /\ 1 = 1) /\ (0 = 0 /\ Z1 a0.1.1 /\ Z1 a0.1.1) /\ (0 = 0 /\ Z1
 a0.1.2 /\ Z1 a0.1.2) /\ (0 = 0 /\ Z1 a0.1.3 /\ Z1 a0.1.3) /\ (0 = 0 /\ Z1 a0.1.4 /\ Z1 a0.1.4) /\ (0 = 0 /\ Z1 a0.1.5 /\ Z1 a0.1.5) /\ Z1 a0.1.6 /\ Z1 a0.1.7 /\ Z1 a0.1.8 /\ Z1 a0.1.9 /\ Z1
 a0.1.10 /\ True) /\ (True /\ FlatL [Value.int .i32 0, Value.int .i32 0] /\ [Value.int .i32 0, Value.int .i32 0] = [Value.int .i32 0, Value.int .i32 0]) /\ ZF a0.1.11 /\ ZF a0.1.12 /\ ZF
 a0.1.13 /\ ZF a0.1.14 /\ ZF a0.1.15 /\ ZF a0.1.16 /\ ZF a0.1.17 /\ ZF a0.1.18 /\ ZF a0.2.1 /\ ZF a0.2.2 /\ ZF a0.2.3 /\ ZF cells2 /\ True
abbrev QYq1P_2 (a0 : RuA) (a1 : PoA) (a2 : Int) (a3 : Int) : Prop := (∀ (_ : Unit), (∃ (b1 b2 : Nat), isG a0 a1 b1 b2 /\ (0 : Int) <= turnG b1 b2) -> ∃ (_ : Unit), (∃ (b2 b3 : Nat),
 isG a0 a1 b2 b3 /\ (0 : Int) <= turnG b2 b3) /\ (0 = 0 /\ 2 = 2 /\ 2 = 2) /\ True) /\ (∀ (b0 : XyB), (∃ (b1 b2 : Nat), isG a0 a1 b1 b2 /\ turnG b1 b2 < (0 : Int) /\ payR b1 b2 (a2 + a3)
 b0.1 b0.2) -> ∃ (b1 : XyB), (∃ (b2 b3 : Nat), isG a0 a1 b2 b3 /\ turnG b2 b3 < (0 : Int) /\ payR b2 b3 (a2 + a3) b1.1 b1.2) /\ (0 = 0 /\ 2 = 2 /\ 2 = 2) /\ (2 = 2 /\ b1.1 = b0.1 /\ b1.2 =
 b0.2 /\ True) /\ True) /\ True
abbrev QYq1P_3 (a0 : PoA) : Prop := True /\ 0 = 0 /\ (0 = 0 /\ 2 = 2 /\ 2 = 2) /\ (0 = 0 /\ 2 = 2 /\ 2 = 2) /\ (0 = 0 /\ 2 = 2 /\ 2 = 2) /\ Z1 a0.4 /\ Z1 a0.5 /\ Z1 a0.6 /\ Z1 a0.7 /\ Z1 a0.8 /\
 True /\ True
abbrev QYq1P_4 (a0 : PoA) : Prop := (0 = 0 /\ 2 = 2 /\ 2 = 2) /\ (0 = 0 /\ 2 = 2 /\ 2 = 2) /\ (0 = 0 /\ 2 = 2 /\ 2 = 2) /\ Z1 a0.4 /\ Z1 a0.5 /\ Z1 a0.6 /\ Z1 a0.7 /\ Z1 a0.8 /\ True
theorem vc_gv0 (a : GvA) : G_gv0 a = ((True /\ (∃ (q r : Nat), isG a.1 a.2 q r)) /\ ((0 = 0 /\ QYq1P_4 a.2 /\ True) /\ QYq1P_1 a) /\ (∀ (e : TnB), (∃ (h i : Nat), isG a.1 a.2 h i /\ e.1 = turnG h i) -> (e.1 < 0 ->
(True /\ True /\ True /\ True /\ True /\ True /\ True /\ True /\ True /\ True /\ True /\ True) /\ (∀ (j : Int), j = IntKind.wrap .i64 ((0 : Int) + a.3) -> ∀ (b : Int), b = IntKind.wrap .i64
(j + a.4) -> (True /\ (∃ (k l : Nat), isG a.1 a.2 k l /\ turnG k l < (0 : Int)) /\ rightQ b) /\ ((0 = 0 /\ QYq1P_4 a.2 /\ b = b /\ True) /\ QYq1P_1 a) /\ (∀ (c : XyB), (∃ (m n
: Nat), isG a.1 a.2 m n /\ payR m n b c.1 c.2) -> ((True /\ True) /\ (True /\ True) /\ (True /\ True) /\ (W_G_gv0_0 a = W_G_gv0_0 a /\ True) /\ (True /\ True) /\ (True /\ True) /\
(True /\ True) /\ (W_G_gv0_0 a = W_G_gv0_0 a /\ True) /\ True /\ True /\ True /\ True /\ True /\ True /\ True /\ True /\ True) /\ ∃ (d : XyB), (∃ (f g : Nat), isG a.1 a.2 f g /\ turnG
f g < (0 : Int) /\ payR f g (a.3 + a.4) d.1 d.2) /\ (0 = 0 /\ 2 = 2 /\ 2 = 2) /\ (2 = 2 /\ d.1 = c.1 /\ d.2 = c.2 /\ True) /\ True) /\ True)) /\ (¬(e.1 < 0) -> (True /\ True
/\ True /\ True /\ True /\ True /\ True /\ True /\ True /\ True /\ True /\ True) /\ ∃ (_ : Unit), (∃ (o p : Nat), isG a.1 a.2 o p /\ (0 : Int) <= turnG o p) /\ (0 = 0 /\ 2 = 2 /\ 2 =
2) /\ True)) /\ True) := by kernel_rfl
theorem g_gv0 (a : GvA) (hp : isGx a.g a.p) (hx : bigQ a.x) (hy : bigQ a.y) : GW (G_gv0 a) := by
 obtain ⟨k, j, hi⟩ := hp
 obtain ⟨x1, x2⟩ := hx
 obtain ⟨y1, y2⟩ := hy
 obtain ⟨f1, f2, f3, f4, f5, f6, f7, f8, f9, f10, f11⟩ := flG_of hi
 have f12 := fl11
 have f13 := fl00
 have f14 := glO
 refine ⟨?_⟩
 rw [vc_gv0]
 (repeat(apply And.intro;focus(and_intros<;>first|trivial|rfl)))
 refine ⟨⟨trivial, k, j, hi⟩, by (and_intros<;>first|trivial|rfl), fun t ht => ?_, trivial⟩
 obtain ⟨k', j', hi', ht⟩ := ht
 obtain ⟨rfl, rfl⟩ := isG_inj hi hi'
 refine ⟨fun h0 => ?_, fun h0 => ?_⟩
 ·(repeat(apply And.intro;focus(and_intros<;>first|trivial|rfl)))
  intro x5 e5 x6 e6
  rw [wr64 (by omega)] at e5 e6
  (repeat(apply And.intro;focus(and_intros<;>first|trivial|rfl)))
  refine ⟨⟨trivial, ⟨k, j, hi, by omega⟩, by unfold rightQ; omega⟩, by (and_intros<;>first|trivial|rfl), fun b hb => ?_, trivial⟩
  obtain ⟨k', j', hi', hb⟩ := hb
  obtain ⟨rfl, rfl⟩ := isG_inj hi hi'
  have e6' : x6 = a.x + a.y := by omega
  rw [e6'] at hb
  (repeat(apply And.intro;focus(and_intros<;>first|trivial|rfl)))
  refine ⟨b, ⟨k, j, hi, by omega, hb⟩, ?_⟩
  (and_intros<;>first|trivial|rfl)
 ·(repeat(apply And.intro;focus(and_intros<;>first|trivial|rfl)))
  refine ⟨(), ⟨k, j, hi, by omega⟩, ?_⟩
  (and_intros<;>first|trivial|rfl)
theorem s_gives0 : SpecOK Tryz.prog (S_gives 0).spec := fun a => specG_at (S := S_gives 0) (an := []) envOK cwGv_ok fun hp => g_gv0 a hp.1 hp.2.1 hp.2.2
set_option maxHeartbeats 3200000 in
theorem vc_gv1 (a : GvA) : G_gv1 a = ((True /\ (∃ (q r : Nat), isG a.1 a.2 q r)) /\ ((0 = 0 /\ QYq1P_4 a.2 /\ True) /\ QYq1P_1 a) /\ (∀ (e : TnB), (∃ (h i : Nat), isG a.1 a.2 h i /\ e.1 = turnG h i) -> (e.1 < 0 ->
(True /\ True /\ True /\ True /\ True /\ True /\ True /\ True /\ True /\ True /\ True /\ True) /\ (∀ (j : Int), j = IntKind.wrap .i64 ((0 : Int) + a.3) -> ∀ (b : Int), b = IntKind.wrap .i64
(j + a.4) -> (True /\ (∃ (k l : Nat), isG a.1 a.2 k l /\ turnG k l < (0 : Int)) /\ rightQ b) /\ ((0 = 0 /\ QYq1P_4 a.2 /\ b = b /\ True) /\ QYq1P_1 a) /\ (∀ (c : XyB), (∃ (m n
: Nat), isG a.1 a.2 m n /\ payR m n b c.1 c.2) -> ((True /\ True) /\ (True /\ True) /\ (True /\ True) /\ (W_G_gv1_0 a = W_G_gv1_0 a /\ True) /\ (True /\ True) /\ (True /\ True) /\
(True /\ True) /\ (W_G_gv1_0 a = W_G_gv1_0 a /\ True) /\ True /\ True /\ True /\ True /\ True /\ True /\ True /\ True /\ True) /\ ∃ (d : XyB), (∃ (f g : Nat), isG a.1 a.2 f g /\ turnG
f g < (0 : Int) /\ payR f g (a.3 + a.4) d.1 d.2) /\ (0 = 0 /\ 2 = 2 /\ 2 = 2) /\ (2 = 2 /\ d.1 = c.1 /\ d.2 = c.2 /\ True) /\ True) /\ True)) /\ (¬(e.1 < 0) -> (True /\ True
/\ True /\ True /\ True /\ True /\ True /\ True /\ True /\ True /\ True /\ True) /\ ∃ (_ : Unit), (∃ (o p : Nat), isG a.1 a.2 o p /\ (0 : Int) <= turnG o p) /\ (0 = 0 /\ 2 = 2 /\ 2 =
2) /\ True)) /\ True) := by kernel_rfl
theorem g_gv1 (a : GvA) (hp : isGx a.g a.p) (hx : bigQ a.x) (hy : bigQ a.y) : GW (G_gv1 a) := by
 obtain ⟨k, j, hi⟩ := hp
 obtain ⟨x1, x2⟩ := hx
 obtain ⟨y1, y2⟩ := hy
 obtain ⟨f1, f2, f3, f4, f5, f6, f7, f8, f9, f10, f11⟩ := flG_of hi
 have f12 := fl11
 have f13 := fl00
 have f14 := glO
 refine ⟨?_⟩
 rw [vc_gv1]
 (repeat(apply And.intro;focus(and_intros<;>first|trivial|rfl)))
 refine ⟨⟨trivial, k, j, hi⟩, by (and_intros<;>first|trivial|rfl), fun t ht => ?_, trivial⟩
 obtain ⟨k', j', hi', ht⟩ := ht
 obtain ⟨rfl, rfl⟩ := isG_inj hi hi'
 refine ⟨fun h0 => ?_, fun h0 => ?_⟩
 ·(repeat(apply And.intro;focus(and_intros<;>first|trivial|rfl)))
  intro x5 e5 x6 e6
  rw [wr64 (by omega)] at e5 e6
  (repeat(apply And.intro;focus(and_intros<;>first|trivial|rfl)))
  refine ⟨⟨trivial, ⟨k, j, hi, by omega⟩, by unfold rightQ; omega⟩, by (and_intros<;>first|trivial|rfl), fun b hb => ?_, trivial⟩
  obtain ⟨k', j', hi', hb⟩ := hb
  obtain ⟨rfl, rfl⟩ := isG_inj hi hi'
  have e6' : x6 = a.x + a.y := by omega
  rw [e6'] at hb
  (repeat(apply And.intro;focus(and_intros<;>first|trivial|rfl)))
  refine ⟨b, ⟨k, j, hi, by omega, hb⟩, ?_⟩
  (and_intros<;>first|trivial|rfl)
 ·(repeat(apply And.intro;focus(and_intros<;>first|trivial|rfl)))
  refine ⟨(), ⟨k, j, hi, by omega⟩, ?_⟩
  (and_intros<;>first|trivial|rfl)
theorem s_gives1 : SpecOK Tryz.prog (S_gives 1).spec := fun a => specG_at (S := S_gives 1) (an := []) envOK cwGv_ok fun hp => g_gv1 a hp.1 hp.2.1 hp.2.2
set_option maxHeartbeats 3200000 in
theorem vc_gv2 (a : GvA) : G_gv2 a = ((True /\ (∃ (q r : Nat), isG a.1 a.2 q r)) /\ ((0 = 0 /\ QYq1P_4 a.2 /\ True) /\ QYq1P_1 a) /\ (∀ (e : TnB), (∃ (h i : Nat), isG a.1 a.2 h i /\ e.1 = turnG h i) -> (e.1 < 0 ->
(True /\ True /\ True /\ True /\ True /\ True /\ True /\ True /\ True /\ True /\ True /\ True) /\ (∀ (j : Int), j = IntKind.wrap .i64 ((0 : Int) + a.3) -> ∀ (b : Int), b = IntKind.wrap .i64
(j + a.4) -> (True /\ (∃ (k l : Nat), isG a.1 a.2 k l /\ turnG k l < (0 : Int)) /\ rightQ b) /\ ((0 = 0 /\ QYq1P_4 a.2 /\ b = b /\ True) /\ QYq1P_1 a) /\ (∀ (c : XyB), (∃ (m n
: Nat), isG a.1 a.2 m n /\ payR m n b c.1 c.2) -> ((True /\ True) /\ (True /\ True) /\ (True /\ True) /\ (W_G_gv2_0 a = W_G_gv2_0 a /\ True) /\ (True /\ True) /\ (True /\ True) /\
(True /\ True) /\ (W_G_gv2_0 a = W_G_gv2_0 a /\ True) /\ True /\ True /\ True /\ True /\ True /\ True /\ True /\ True /\ True) /\ ∃ (d : XyB), (∃ (f g : Nat), isG a.1 a.2 f g /\ turnG
f g < (0 : Int) /\ payR f g (a.3 + a.4) d.1 d.2) /\ (0 = 0 /\ 2 = 2 /\ 2 = 2) /\ (2 = 2 /\ d.1 = c.1 /\ d.2 = c.2 /\ True) /\ True) /\ True)) /\ (¬(e.1 < 0) -> (True /\ True
/\ True /\ True /\ True /\ True /\ True /\ True /\ True /\ True /\ True /\ True) /\ ∃ (_ : Unit), (∃ (o p : Nat), isG a.1 a.2 o p /\ (0 : Int) <= turnG o p) /\ (0 = 0 /\ 2 = 2 /\ 2 =
2) /\ True)) /\ True) := by kernel_rfl
theorem g_gv2 (a : GvA) (hp : isGx a.g a.p) (hx : bigQ a.x) (hy : bigQ a.y) : GW (G_gv2 a) := by
 obtain ⟨k, j, hi⟩ := hp
 obtain ⟨x1, x2⟩ := hx
 obtain ⟨y1, y2⟩ := hy
 obtain ⟨f1, f2, f3, f4, f5, f6, f7, f8, f9, f10, f11⟩ := flG_of hi
 have f12 := fl11
 have f13 := fl00
 have f14 := glO
 refine ⟨?_⟩
 rw [vc_gv2]
 (repeat(apply And.intro;focus(and_intros<;>first|trivial|rfl)))
 refine ⟨⟨trivial, k, j, hi⟩, by (and_intros<;>first|trivial|rfl), fun t ht => ?_, trivial⟩
 obtain ⟨k', j', hi', ht⟩ := ht
 obtain ⟨rfl, rfl⟩ := isG_inj hi hi'
 refine ⟨fun h0 => ?_, fun h0 => ?_⟩
 ·(repeat(apply And.intro;focus(and_intros<;>first|trivial|rfl)))
  intro x5 e5 x6 e6
  rw [wr64 (by omega)] at e5 e6
  (repeat(apply And.intro;focus(and_intros<;>first|trivial|rfl)))
  refine ⟨⟨trivial, ⟨k, j, hi, by omega⟩, by unfold rightQ; omega⟩, by (and_intros<;>first|trivial|rfl), fun b hb => ?_, trivial⟩
  obtain ⟨k', j', hi', hb⟩ := hb
  obtain ⟨rfl, rfl⟩ := isG_inj hi hi'
  have e6' : x6 = a.x + a.y := by omega
  rw [e6'] at hb
  (repeat(apply And.intro;focus(and_intros<;>first|trivial|rfl)))
  refine ⟨b, ⟨k, j, hi, by omega, hb⟩, ?_⟩
  (and_intros<;>first|trivial|rfl)
 ·(repeat(apply And.intro;focus(and_intros<;>first|trivial|rfl)))
  refine ⟨(), ⟨k, j, hi, by omega⟩, ?_⟩
  (and_intros<;>first|trivial|rfl)
theorem s_gives2 : SpecOK Tryz.prog (S_gives 2).spec := fun a => specG_at (S := S_gives 2) (an := []) envOK cwGv_ok fun hp => g_gv2 a hp.1 hp.2.1 hp.2.2
set_option maxHeartbeats 3200000 in
theorem vc_gv3 (a : GvA) : G_gv3 a = ((True /\ (∃ (q r : Nat), isG a.1 a.2 q r)) /\ ((0 = 0 /\ QYq1P_4 a.2 /\ True) /\ QYq1P_1 a) /\ (∀ (e : TnB), (∃ (h i : Nat), isG a.1 a.2 h i /\ e.1 = turnG h i) -> (e.1 < 0 ->
(True /\ True /\ True /\ True /\ True /\ True /\ True /\ True /\ True /\ True /\ True /\ True) /\ (∀ (j : Int), j = IntKind.wrap .i64 ((0 : Int) + a.3) -> ∀ (b : Int), b = IntKind.wrap .i64
(j + a.4) -> (True /\ (∃ (k l : Nat), isG a.1 a.2 k l /\ turnG k l < (0 : Int)) /\ rightQ b) /\ ((0 = 0 /\ QYq1P_4 a.2 /\ b = b /\ True) /\ QYq1P_1 a) /\ (∀ (c : XyB), (∃ (m n
: Nat), isG a.1 a.2 m n /\ payR m n b c.1 c.2) -> ((True /\ True) /\ (True /\ True) /\ (True /\ True) /\ (W_G_gv3_0 a = W_G_gv3_0 a /\ True) /\ (True /\ True) /\ (True /\ True) /\
(True /\ True) /\ (W_G_gv3_0 a = W_G_gv3_0 a /\ True) /\ True /\ True /\ True /\ True /\ True /\ True /\ True /\ True /\ True) /\ ∃ (d : XyB), (∃ (f g : Nat), isG a.1 a.2 f g /\ turnG
f g < (0 : Int) /\ payR f g (a.3 + a.4) d.1 d.2) /\ (0 = 0 /\ 2 = 2 /\ 2 = 2) /\ (2 = 2 /\ d.1 = c.1 /\ d.2 = c.2 /\ True) /\ True) /\ True)) /\ (¬(e.1 < 0) -> (True /\ True
/\ True /\ True /\ True /\ True /\ True /\ True /\ True /\ True /\ True /\ True) /\ ∃ (_ : Unit), (∃ (o p : Nat), isG a.1 a.2 o p /\ (0 : Int) <= turnG o p) /\ (0 = 0 /\ 2 = 2 /\ 2 =
2) /\ True)) /\ True) := by kernel_rfl
theorem g_gv3 (a : GvA) (hp : isGx a.g a.p) (hx : bigQ a.x) (hy : bigQ a.y) : GW (G_gv3 a) := by
 obtain ⟨k, j, hi⟩ := hp
 obtain ⟨x1, x2⟩ := hx
 obtain ⟨y1, y2⟩ := hy
 obtain ⟨f1, f2, f3, f4, f5, f6, f7, f8, f9, f10, f11⟩ := flG_of hi
 have f12 := fl11
 have f13 := fl00
 have f14 := glO
 refine ⟨?_⟩
 rw [vc_gv3]
 (repeat(apply And.intro;focus(and_intros<;>first|trivial|rfl)))
 refine ⟨⟨trivial, k, j, hi⟩, by (and_intros<;>first|trivial|rfl), fun t ht => ?_, trivial⟩
 obtain ⟨k', j', hi', ht⟩ := ht
 obtain ⟨rfl, rfl⟩ := isG_inj hi hi'
 refine ⟨fun h0 => ?_, fun h0 => ?_⟩
 ·(repeat(apply And.intro;focus(and_intros<;>first|trivial|rfl)))
  intro x5 e5 x6 e6
  rw [wr64 (by omega)] at e5 e6
  (repeat(apply And.intro;focus(and_intros<;>first|trivial|rfl)))
  refine ⟨⟨trivial, ⟨k, j, hi, by omega⟩, by unfold rightQ; omega⟩, by (and_intros<;>first|trivial|rfl), fun b hb => ?_, trivial⟩
  obtain ⟨k', j', hi', hb⟩ := hb
  obtain ⟨rfl, rfl⟩ := isG_inj hi hi'
  have e6' : x6 = a.x + a.y := by omega
  rw [e6'] at hb
  (repeat(apply And.intro;focus(and_intros<;>first|trivial|rfl)))
  refine ⟨b, ⟨k, j, hi, by omega, hb⟩, ?_⟩
  (and_intros<;>first|trivial|rfl)
 ·(repeat(apply And.intro;focus(and_intros<;>first|trivial|rfl)))
  refine ⟨(), ⟨k, j, hi, by omega⟩, ?_⟩
  (and_intros<;>first|trivial|rfl)
theorem s_gives3 : SpecOK Tryz.prog (S_gives 3).spec := fun a => specG_at (S := S_gives 3) (an := []) envOK cwGv_ok fun hp => g_gv3 a hp.1 hp.2.1 hp.2.2
theorem vc_pg10 (a : PgA) : G_pg10 a = ((True /\ isGx a.1.1.1 a.1.1.2 /\ (0 <= a.2 /\ a.2 <= 100000000) /\ 0 <= a.3 /\ a.3 <= 100000000) /\ ((0 = 0 /\ (0 = 0 /\ 2 = 2 /\ 2 = 2) /\ True) /\ QYq1P_3 a.1.1.2 /\ (True /\ Z1 a.2 /\ Z1 a.3 /\
True) /\ QYq1P_1 a.1.1) /\ QYq1P_2 a.1.1.1 a.1.1.2 a.2 a.3) := by kernel_rfl
theorem g_pg10 (a : PgA) (hp : isGx (pyI 0 a.t).g (pyI 0 a.t).p) (hx : bigQ a.x) (hy : bigQ a.y) : GW (G_pg10 a) := by
 have hp0 := hp
 obtain ⟨k, j, hi⟩ := hp
 have hi : isG a.t.a.g a.t.a.p k j := hi
 obtain ⟨f1, f2, f3, f4, f5, f6, f7, f8, f9, f10, f11⟩ := flG_of hi
 have f12 := fl11
 have f13 := fl00
 have f14 := glO
 refine ⟨?_⟩
 rw [vc_pg10]
 (repeat(apply And.intro;focus(and_intros<;>first|trivial|rfl)))
 refine ⟨⟨trivial, hp0, hx, hy⟩, by (and_intros<;>first|trivial|rfl), fun u hu => ?_, fun b hb => ?_, trivial⟩
 ·(repeat(apply And.intro;focus(and_intros<;>first|trivial|rfl)))
  refine ⟨(), hu, ?_⟩
  (and_intros<;>first|trivial|rfl)
 ·(repeat(apply And.intro;focus(and_intros<;>first|trivial|rfl)))
  refine ⟨b, hb, ?_⟩
  (and_intros<;>first|trivial|rfl)
theorem s_pgv10 : SpecOK Tryz.prog (S_pgv 1 0).spec := fun a K hp hq => spec_call (S := S_gives 0) (T := S_pgv 1 0) (b := a) rfl s_gives0 (g_pg10 a hp.1 hp.2.1 hp.2.2).h K hp hq
theorem vc_pg20 (a : PgA) : G_pg20 a = ((True /\ isGx a.1.1.1 a.1.1.2 /\ (0 <= a.2 /\ a.2 <= 100000000) /\ 0 <= a.3 /\ a.3 <= 100000000) /\ ((0 = 0 /\ (0 = 0 /\ 2 = 2 /\ 2 = 2) /\ True) /\ QYq1P_3 a.1.1.2 /\ (True /\ Z1 a.2 /\ Z1 a.3 /\
True) /\ QYq1P_1 a.1.1) /\ QYq1P_2 a.1.1.1 a.1.1.2 a.2 a.3) := by kernel_rfl
theorem g_pg20 (a : PgA) (hp : isGx (pyI 0 a.t).g (pyI 0 a.t).p) (hx : bigQ a.x) (hy : bigQ a.y) : GW (G_pg20 a) := by
 have hp0 := hp
 obtain ⟨k, j, hi⟩ := hp
 have hi : isG a.t.a.g a.t.a.p k j := hi
 obtain ⟨f1, f2, f3, f4, f5, f6, f7, f8, f9, f10, f11⟩ := flG_of hi
 have f12 := fl11
 have f13 := fl00
 have f14 := glO
 refine ⟨?_⟩
 rw [vc_pg20]
 (repeat(apply And.intro;focus(and_intros<;>first|trivial|rfl)))
 refine ⟨⟨trivial, hp0, hx, hy⟩, by (and_intros<;>first|trivial|rfl), fun u hu => ?_, fun b hb => ?_, trivial⟩
 ·(repeat(apply And.intro;focus(and_intros<;>first|trivial|rfl)))
  refine ⟨(), hu, ?_⟩
  (and_intros<;>first|trivial|rfl)
 ·(repeat(apply And.intro;focus(and_intros<;>first|trivial|rfl)))
  refine ⟨b, hb, ?_⟩
  (and_intros<;>first|trivial|rfl)
theorem s_pgv20 : SpecOK Tryz.prog (S_pgv 2 0).spec := fun a K hp hq => spec_call (S := S_gives 0) (T := S_pgv 2 0) (b := a) rfl s_gives0 (g_pg20 a hp.1 hp.2.1 hp.2.2).h K hp hq
theorem vc_pg21 (a : PgA) : G_pg21 a = ((True /\ isGx a.1.2.1 a.1.2.2 /\ (0 <= a.2 /\ a.2 <= 100000000) /\ 0 <= a.3 /\ a.3 <= 100000000) /\ ((10 = 10 /\ (0 = 0 /\ 2 = 2 /\ 2 = 2) /\ True) /\ (True /\ True /\ True /\ True /\ True /\ True /\
True /\ True /\ True /\ True /\ QYq1P_3 a.1.2.2) /\ (True /\ Z1 a.2 /\ Z1 a.3 /\ True) /\ QYq1P_1 a.1.2) /\ QYq1P_2 a.1.2.1 a.1.2.2 a.2 a.3) := by kernel_rfl
theorem g_pg21 (a : PgA) (hp : isGx (pyI 1 a.t).g (pyI 1 a.t).p) (hx : bigQ a.x) (hy : bigQ a.y) : GW (G_pg21 a) := by
 have hp0 := hp
 obtain ⟨k, j, hi⟩ := hp
 have hi : isG a.t.b.g a.t.b.p k j := hi
 obtain ⟨f1, f2, f3, f4, f5, f6, f7, f8, f9, f10, f11⟩ := flG_of hi
 have f12 := fl11
 have f13 := fl00
 have f14 := glO
 refine ⟨?_⟩
 rw [vc_pg21]
 (repeat(apply And.intro;focus(and_intros<;>first|trivial|rfl)))
 refine ⟨⟨trivial, hp0, hx, hy⟩, by (and_intros<;>first|trivial|rfl), fun u hu => ?_, fun b hb => ?_, trivial⟩
 ·(repeat(apply And.intro;focus(and_intros<;>first|trivial|rfl)))
  refine ⟨(), hu, ?_⟩
  (and_intros<;>first|trivial|rfl)
 ·(repeat(apply And.intro;focus(and_intros<;>first|trivial|rfl)))
  refine ⟨b, hb, ?_⟩
  (and_intros<;>first|trivial|rfl)
theorem s_pgv21 : SpecOK Tryz.prog (S_pgv 2 1).spec := fun a K hp hq => spec_call (S := S_gives 1) (T := S_pgv 2 1) (b := a) rfl s_gives1 (g_pg21 a hp.1 hp.2.1 hp.2.2).h K hp hq
theorem vc_pg30 (a : PgA) : G_pg30 a = ((True /\ isGx a.1.1.1 a.1.1.2 /\ (0 <= a.2 /\ a.2 <= 100000000) /\ 0 <= a.3 /\ a.3 <= 100000000) /\ ((0 = 0 /\ (0 = 0 /\ 2 = 2 /\ 2 = 2) /\ True) /\ QYq1P_3 a.1.1.2 /\ (True /\ Z1 a.2 /\ Z1 a.3 /\
True) /\ QYq1P_1 a.1.1) /\ QYq1P_2 a.1.1.1 a.1.1.2 a.2 a.3) := by kernel_rfl
theorem g_pg30 (a : PgA) (hp : isGx (pyI 0 a.t).g (pyI 0 a.t).p) (hx : bigQ a.x) (hy : bigQ a.y) : GW (G_pg30 a) := by
 have hp0 := hp
 obtain ⟨k, j, hi⟩ := hp
 have hi : isG a.t.a.g a.t.a.p k j := hi
 obtain ⟨f1, f2, f3, f4, f5, f6, f7, f8, f9, f10, f11⟩ := flG_of hi
 have f12 := fl11
 have f13 := fl00
 have f14 := glO
 refine ⟨?_⟩
 rw [vc_pg30]
 (repeat(apply And.intro;focus(and_intros<;>first|trivial|rfl)))
 refine ⟨⟨trivial, hp0, hx, hy⟩, by (and_intros<;>first|trivial|rfl), fun u hu => ?_, fun b hb => ?_, trivial⟩
 ·(repeat(apply And.intro;focus(and_intros<;>first|trivial|rfl)))
  refine ⟨(), hu, ?_⟩
  (and_intros<;>first|trivial|rfl)
 ·(repeat(apply And.intro;focus(and_intros<;>first|trivial|rfl)))
  refine ⟨b, hb, ?_⟩
  (and_intros<;>first|trivial|rfl)
theorem s_pgv30 : SpecOK Tryz.prog (S_pgv 3 0).spec := fun a K hp hq => spec_call (S := S_gives 0) (T := S_pgv 3 0) (b := a) rfl s_gives0 (g_pg30 a hp.1 hp.2.1 hp.2.2).h K hp hq
theorem vc_pg31 (a : PgA) : G_pg31 a = ((True /\ isGx a.1.2.1 a.1.2.2 /\ (0 <= a.2 /\ a.2 <= 100000000) /\ 0 <= a.3 /\ a.3 <= 100000000) /\ ((10 = 10 /\ (0 = 0 /\ 2 = 2 /\ 2 = 2) /\ True) /\ (True /\ True /\ True /\ True /\ True /\ True /\
True /\ True /\ True /\ True /\ QYq1P_3 a.1.2.2) /\ (True /\ Z1 a.2 /\ Z1 a.3 /\ True) /\ QYq1P_1 a.1.2) /\ QYq1P_2 a.1.2.1 a.1.2.2 a.2 a.3) := by kernel_rfl
theorem g_pg31 (a : PgA) (hp : isGx (pyI 1 a.t).g (pyI 1 a.t).p) (hx : bigQ a.x) (hy : bigQ a.y) : GW (G_pg31 a) := by
 have hp0 := hp
 obtain ⟨k, j, hi⟩ := hp
 have hi : isG a.t.b.g a.t.b.p k j := hi
 obtain ⟨f1, f2, f3, f4, f5, f6, f7, f8, f9, f10, f11⟩ := flG_of hi
 have f12 := fl11
 have f13 := fl00
 have f14 := glO
 refine ⟨?_⟩
 rw [vc_pg31]
 (repeat(apply And.intro;focus(and_intros<;>first|trivial|rfl)))
 refine ⟨⟨trivial, hp0, hx, hy⟩, by (and_intros<;>first|trivial|rfl), fun u hu => ?_, fun b hb => ?_, trivial⟩
 ·(repeat(apply And.intro;focus(and_intros<;>first|trivial|rfl)))
  refine ⟨(), hu, ?_⟩
  (and_intros<;>first|trivial|rfl)
 ·(repeat(apply And.intro;focus(and_intros<;>first|trivial|rfl)))
  refine ⟨b, hb, ?_⟩
  (and_intros<;>first|trivial|rfl)
theorem s_pgv31 : SpecOK Tryz.prog (S_pgv 3 1).spec := fun a K hp hq => spec_call (S := S_gives 1) (T := S_pgv 3 1) (b := a) rfl s_gives1 (g_pg31 a hp.1 hp.2.1 hp.2.2).h K hp hq
theorem vc_pg32 (a : PgA) : G_pg32 a = ((True /\ isGx a.1.3.1 a.1.3.2 /\ (0 <= a.2 /\ a.2 <= 100000000) /\ 0 <= a.3 /\ a.3 <= 100000000) /\ ((20 = 20 /\ (0 = 0 /\ 2 = 2 /\ 2 = 2) /\ True) /\ (True /\ True /\ True /\ True /\ True /\ True /\
True /\ True /\ True /\ True /\ True /\ True /\ True /\ True /\ True /\ True /\ True /\ True /\ True /\ True /\ QYq1P_3 a.1.3.2) /\ (True /\ Z1 a.2 /\ Z1 a.3 /\ True) /\ QYq1P_1 a.1.3) /\ QYq1P_2
a.1.3.1 a.1.3.2 a.2 a.3) := by kernel_rfl
theorem g_pg32 (a : PgA) (hp : isGx (pyI 2 a.t).g (pyI 2 a.t).p) (hx : bigQ a.x) (hy : bigQ a.y) : GW (G_pg32 a) := by
 have hp0 := hp
 obtain ⟨k, j, hi⟩ := hp
 have hi : isG a.t.c.g a.t.c.p k j := hi
 obtain ⟨f1, f2, f3, f4, f5, f6, f7, f8, f9, f10, f11⟩ := flG_of hi
 have f12 := fl11
 have f13 := fl00
 have f14 := glO
 refine ⟨?_⟩
 rw [vc_pg32]
 (repeat(apply And.intro;focus(and_intros<;>first|trivial|rfl)))
 refine ⟨⟨trivial, hp0, hx, hy⟩, by (and_intros<;>first|trivial|rfl), fun u hu => ?_, fun b hb => ?_, trivial⟩
 ·(repeat(apply And.intro;focus(and_intros<;>first|trivial|rfl)))
  refine ⟨(), hu, ?_⟩
  (and_intros<;>first|trivial|rfl)
 ·(repeat(apply And.intro;focus(and_intros<;>first|trivial|rfl)))
  refine ⟨b, hb, ?_⟩
  (and_intros<;>first|trivial|rfl)
theorem s_pgv32 : SpecOK Tryz.prog (S_pgv 3 2).spec := fun a K hp hq => spec_call (S := S_gives 2) (T := S_pgv 3 2) (b := a) rfl s_gives2 (g_pg32 a hp.1 hp.2.1 hp.2.2).h K hp hq
theorem vc_pg40 (a : PgA) : G_pg40 a = ((True /\ isGx a.1.1.1 a.1.1.2 /\ (0 <= a.2 /\ a.2 <= 100000000) /\ 0 <= a.3 /\ a.3 <= 100000000) /\ ((0 = 0 /\ (0 = 0 /\ 2 = 2 /\ 2 = 2) /\ True) /\ QYq1P_3 a.1.1.2 /\ (True /\ Z1 a.2 /\ Z1 a.3 /\
True) /\ QYq1P_1 a.1.1) /\ QYq1P_2 a.1.1.1 a.1.1.2 a.2 a.3) := by kernel_rfl
theorem g_pg40 (a : PgA) (hp : isGx (pyI 0 a.t).g (pyI 0 a.t).p) (hx : bigQ a.x) (hy : bigQ a.y) : GW (G_pg40 a) := by
 have hp0 := hp
 obtain ⟨k, j, hi⟩ := hp
 have hi : isG a.t.a.g a.t.a.p k j := hi
 obtain ⟨f1, f2, f3, f4, f5, f6, f7, f8, f9, f10, f11⟩ := flG_of hi
 have f12 := fl11
 have f13 := fl00
 have f14 := glO
 refine ⟨?_⟩
 rw [vc_pg40]
 (repeat(apply And.intro;focus(and_intros<;>first|trivial|rfl)))
 refine ⟨⟨trivial, hp0, hx, hy⟩, by (and_intros<;>first|trivial|rfl), fun u hu => ?_, fun b hb => ?_, trivial⟩
 ·(repeat(apply And.intro;focus(and_intros<;>first|trivial|rfl)))
  refine ⟨(), hu, ?_⟩
  (and_intros<;>first|trivial|rfl)
 ·(repeat(apply And.intro;focus(and_intros<;>first|trivial|rfl)))
  refine ⟨b, hb, ?_⟩
  (and_intros<;>first|trivial|rfl)
theorem s_pgv40 : SpecOK Tryz.prog (S_pgv 4 0).spec := fun a K hp hq => spec_call (S := S_gives 0) (T := S_pgv 4 0) (b := a) rfl s_gives0 (g_pg40 a hp.1 hp.2.1 hp.2.2).h K hp hq
theorem vc_pg41 (a : PgA) : G_pg41 a = ((True /\ isGx a.1.2.1 a.1.2.2 /\ (0 <= a.2 /\ a.2 <= 100000000) /\ 0 <= a.3 /\ a.3 <= 100000000) /\ ((10 = 10 /\ (0 = 0 /\ 2 = 2 /\ 2 = 2) /\ True) /\ (True /\ True /\ True /\ True /\ True /\ True /\
True /\ True /\ True /\ True /\ QYq1P_3 a.1.2.2) /\ (True /\ Z1 a.2 /\ Z1 a.3 /\ True) /\ QYq1P_1 a.1.2) /\ QYq1P_2 a.1.2.1 a.1.2.2 a.2 a.3) := by kernel_rfl
theorem g_pg41 (a : PgA) (hp : isGx (pyI 1 a.t).g (pyI 1 a.t).p) (hx : bigQ a.x) (hy : bigQ a.y) : GW (G_pg41 a) := by
 have hp0 := hp
 obtain ⟨k, j, hi⟩ := hp
 have hi : isG a.t.b.g a.t.b.p k j := hi
 obtain ⟨f1, f2, f3, f4, f5, f6, f7, f8, f9, f10, f11⟩ := flG_of hi
 have f12 := fl11
 have f13 := fl00
 have f14 := glO
 refine ⟨?_⟩
 rw [vc_pg41]
 (repeat(apply And.intro;focus(and_intros<;>first|trivial|rfl)))
 refine ⟨⟨trivial, hp0, hx, hy⟩, by (and_intros<;>first|trivial|rfl), fun u hu => ?_, fun b hb => ?_, trivial⟩
 ·(repeat(apply And.intro;focus(and_intros<;>first|trivial|rfl)))
  refine ⟨(), hu, ?_⟩
  (and_intros<;>first|trivial|rfl)
 ·(repeat(apply And.intro;focus(and_intros<;>first|trivial|rfl)))
  refine ⟨b, hb, ?_⟩
  (and_intros<;>first|trivial|rfl)
theorem s_pgv41 : SpecOK Tryz.prog (S_pgv 4 1).spec := fun a K hp hq => spec_call (S := S_gives 1) (T := S_pgv 4 1) (b := a) rfl s_gives1 (g_pg41 a hp.1 hp.2.1 hp.2.2).h K hp hq
theorem vc_pg42 (a : PgA) : G_pg42 a = ((True /\ isGx a.1.3.1 a.1.3.2 /\ (0 <= a.2 /\ a.2 <= 100000000) /\ 0 <= a.3 /\ a.3 <= 100000000) /\ ((20 = 20 /\ (0 = 0 /\ 2 = 2 /\ 2 = 2) /\ True) /\ (True /\ True /\ True /\ True /\ True /\ True /\
True /\ True /\ True /\ True /\ True /\ True /\ True /\ True /\ True /\ True /\ True /\ True /\ True /\ True /\ QYq1P_3 a.1.3.2) /\ (True /\ Z1 a.2 /\ Z1 a.3 /\ True) /\ QYq1P_1 a.1.3) /\ QYq1P_2
a.1.3.1 a.1.3.2 a.2 a.3) := by kernel_rfl
theorem g_pg42 (a : PgA) (hp : isGx (pyI 2 a.t).g (pyI 2 a.t).p) (hx : bigQ a.x) (hy : bigQ a.y) : GW (G_pg42 a) := by
 have hp0 := hp
 obtain ⟨k, j, hi⟩ := hp
 have hi : isG a.t.c.g a.t.c.p k j := hi
 obtain ⟨f1, f2, f3, f4, f5, f6, f7, f8, f9, f10, f11⟩ := flG_of hi
 have f12 := fl11
 have f13 := fl00
 have f14 := glO
 refine ⟨?_⟩
 rw [vc_pg42]
 (repeat(apply And.intro;focus(and_intros<;>first|trivial|rfl)))
 refine ⟨⟨trivial, hp0, hx, hy⟩, by (and_intros<;>first|trivial|rfl), fun u hu => ?_, fun b hb => ?_, trivial⟩
 ·(repeat(apply And.intro;focus(and_intros<;>first|trivial|rfl)))
  refine ⟨(), hu, ?_⟩
  (and_intros<;>first|trivial|rfl)
 ·(repeat(apply And.intro;focus(and_intros<;>first|trivial|rfl)))
  refine ⟨b, hb, ?_⟩
  (and_intros<;>first|trivial|rfl)
theorem s_pgv42 : SpecOK Tryz.prog (S_pgv 4 2).spec := fun a K hp hq => spec_call (S := S_gives 2) (T := S_pgv 4 2) (b := a) rfl s_gives2 (g_pg42 a hp.1 hp.2.1 hp.2.2).h K hp hq
theorem vc_pg43 (a : PgA) : G_pg43 a = ((True /\ isGx a.1.4.1 a.1.4.2 /\ (0 <= a.2 /\ a.2 <= 100000000) /\ 0 <= a.3 /\ a.3 <= 100000000) /\ ((30 = 30 /\ (0 = 0 /\ 2 = 2 /\ 2 = 2) /\ True) /\ (True /\ True /\ True /\ True /\ True /\ True /\
True /\ True /\ True /\ True /\ True /\ True /\ True /\ True /\ True /\ True /\ True /\ True /\ True /\ True /\ True /\ True /\ True /\ True /\ True /\ True /\ True /\ True /\ True /\ True /\ QYq1P_3
a.1.4.2) /\ (True /\ Z1 a.2 /\ Z1 a.3 /\ True) /\ QYq1P_1 a.1.4) /\ QYq1P_2 a.1.4.1 a.1.4.2 a.2 a.3) := by kernel_rfl
theorem g_pg43 (a : PgA) (hp : isGx (pyI 3 a.t).g (pyI 3 a.t).p) (hx : bigQ a.x) (hy : bigQ a.y) : GW (G_pg43 a) := by
 have hp0 := hp
 obtain ⟨k, j, hi⟩ := hp
 have hi : isG a.t.e.g a.t.e.p k j := hi
 obtain ⟨f1, f2, f3, f4, f5, f6, f7, f8, f9, f10, f11⟩ := flG_of hi
 have f12 := fl11
 have f13 := fl00
 have f14 := glO
 refine ⟨?_⟩
 rw [vc_pg43]
 (repeat(apply And.intro;focus(and_intros<;>first|trivial|rfl)))
 refine ⟨⟨trivial, hp0, hx, hy⟩, by (and_intros<;>first|trivial|rfl), fun u hu => ?_, fun b hb => ?_, trivial⟩
 ·(repeat(apply And.intro;focus(and_intros<;>first|trivial|rfl)))
  refine ⟨(), hu, ?_⟩
  (and_intros<;>first|trivial|rfl)
 ·(repeat(apply And.intro;focus(and_intros<;>first|trivial|rfl)))
  refine ⟨b, hb, ?_⟩
  (and_intros<;>first|trivial|rfl)
theorem s_pgv43 : SpecOK Tryz.prog (S_pgv 4 3).spec := fun a K hp hq => spec_call (S := S_gives 3) (T := S_pgv 4 3) (b := a) rfl s_gives3 (g_pg43 a hp.1 hp.2.1 hp.2.2).h K hp hq
end Go.Proofs.YtfkacmmcgncooaaGreatDoor
end

/- Tables within tables: what is paid as they stand (a range over a function, with what was given so far). -/
section
set_option maxRecDepth 100000
namespace Go.Proofs.YtfkacmmcgncooaaGreatDoor
open Go.RowKit Go.Shelf
attribute [local go_sem] Oper.semAt_some
def Two (W : World) (nb : Nat) (x y : Int) : Prop := ∃ (cs : Array Value) (fz : Nat × Nat) (zs : List Value), W.heap[nb]? = some (.cells cs 3 fz) /\ cs.toList = .int .i64 x :: .int .i64 y :: zs /\ ∀ o, o < cs.size -> ¬ (fz.1 <= o /\ o < fz.2)
theorem Two.size {cs : Array Value} {a b : Value} {zs : List Value} (h : cs.toList = a :: b :: zs) : cs.size = zs.length + 2 := by rw [← Array.length_toList, h]; rfl
theorem Two.c0 {W : World} {nb : Nat} {x y : Int} (h : Two W nb x y) : W.cell? ⟨nb, 0, none⟩ = some (.int .i64 x) := by
 obtain ⟨cs, fz, zs, h1, h2, -⟩ := h
 refine cell_of h1 ?_
 rw [← Array.getElem?_toList, h2]; rfl
theorem Two.c1 {W : World} {nb : Nat} {x y : Int} (h : Two W nb x y) : W.cell? ⟨nb, 1, none⟩ = some (.int .i64 y) := by
 obtain ⟨cs, fz, zs, h1, h2, -⟩ := h
 refine cell_of h1 ?_
 rw [← Array.getElem?_toList, h2]; rfl
theorem Two.f0 {W : World} {nb : Nat} {x y : Int} (h : Two W nb x y) : W.frozen? ⟨nb, 0, none⟩ = false := by
 obtain ⟨cs, fz, zs, h1, h2, h3⟩ := h
 have hs := Two.size h2
 have := h3 0 (by omega)
 simp only [World.frozen?, h1]
 simp only [Bool.and_eq_false_imp, decide_eq_true_eq, decide_eq_false_iff_not]
 exact fun h h' => this ⟨h, h'⟩
theorem Two.f1 {W : World} {nb : Nat} {x y : Int} (h : Two W nb x y) : W.frozen? ⟨nb, 1, none⟩ = false := by
 obtain ⟨cs, fz, zs, h1, h2, h3⟩ := h
 have hs := Two.size h2
 have := h3 1 (by omega)
 simp only [World.frozen?, h1]
 simp only [Bool.and_eq_false_imp, decide_eq_true_eq, decide_eq_false_iff_not]
 exact fun h h' => this ⟨h, h'⟩
theorem Two.lt {W : World} {nb : Nat} {x y : Int} (h : Two W nb x y) : nb < W.heap.size := by
 obtain ⟨cs, fz, zs, h1, -⟩ := h
 exact (Array.getElem?_eq_some_iff.1 h1).1
theorem Two.of {W W' : World} {nb : Nat} {x y : Int} (h : Two W nb x y) (e : W'.heap[nb]? = W.heap[nb]?) : Two W' nb x y := by
 obtain ⟨cs, fz, zs, h1, h2⟩ := h
 exact ⟨cs, fz, zs, e.trans h1, h2⟩
theorem Two.below {W W' : World} {nb n : Nat} {x y : Int} (h : Two W nb x y) (hb : Below n W W') (hn : nb < n) : Two W' nb x y := h.of (hb.block nb hn)
theorem Two.kept {W W' : World} {nb : Nat} {x y : Int} {row : Option Nat} (h : Two W nb x y) (hg : W.grownBy W' row) (hr : ∀ r, row = some r -> ∃ o : Obj, W.heap[r]? = some o /\ o.isCells = false) : Two W' nb x y := by
 obtain ⟨cs, fz, zs, h1, h2⟩ := h
 exact ⟨cs, fz, zs, blk_kept h1 hg hr, h2⟩
theorem Two.set0 {W : World} {nb : Nat} {x y x' : Int} (h : Two W nb x y) : Two (W.setCell ⟨nb, 0, none⟩ (.int .i64 x')) nb x' y := by
 obtain ⟨cs, fz, zs, h1, h2, h3⟩ := h
 refine ⟨_, fz, zs, Go.Joins.block_setCell h1 _, ?_, by simpa using h3⟩
 rw [Array.toList_setIfInBounds, h2]; rfl
theorem Two.set1 {W : World} {nb : Nat} {x y y' : Int} (h : Two W nb x y) : Two (W.setCell ⟨nb, 1, none⟩ (.int .i64 y')) nb x y' := by
 obtain ⟨cs, fz, zs, h1, h2, h3⟩ := h
 refine ⟨_, fz, zs, Go.Joins.block_setCell h1 _, ?_, by simpa using h3⟩
 rw [Array.toList_setIfInBounds, h2]; rfl
def GvS (n₀ B : Nat) (W : World) (k : Nat) (x y : Int) : Prop := ∃ g l c, W.heap[B]? = some (.cells #[.slice g l c] 40) /\ ((k = 0 /\ g = none /\ l = 0 /\ c = 0 /\ x = 0 /\ y = 0) ∨ (0 < k /\ ∃ nb, g = some ⟨nb, 0, none⟩ /\ l = 2 /\ 2 <= c /\ n₀ <= nb /\ nb ≠ B /\ Two W nb x y))
inductive ChL {M : Nat} (fa fb : Nat -> Int) (gv : Nat -> Int -> Int -> Int -> Int -> Prop) : List (Fin (M + 1)) -> Int -> Int -> Prop
 | nil : ChL fa fb gv [] 0 0
 | snoc {pre : List (Fin (M + 1))} {t : Fin (M + 1)} {x y u v : Int} : ChL fa fb gv pre x y -> gv t.1 (fa t.1 + x) (fb t.1 + y) u v -> ChL fa fb gv (pre ++ [t]) u v
def Sm (n : Int) : Prop := 0 <= n /\ n <= 100000000
theorem ChL.small {M : Nat} {fa fb : Nat -> Int} {gv : Nat -> Int -> Int -> Int -> Int -> Prop} (hf : ∀ i, i <= M -> (0 <= fa i /\ fa i <= 1000000) /\ 0 <= fb i /\ fb i <= 1000000) (hg : ∀ i x y u v, gv i x y u v -> 0 <= x -> 0 <= y -> (0 <= u /\ 0 <= v) /\ u + v = x + y) :
  ∀ {pre : List (Fin (M + 1))} {x y : Int}, ChL fa fb gv pre x y -> (0 <= x /\ 0 <= y) /\ x + y <= 2000000 * (pre.length : Int) := by
 intro pre x y h
 induction h with
 | nil => exact ⟨⟨Int.le_refl _, Int.le_refl _⟩, by simp⟩
 | @snoc pre t x y u v h1 h2 ih =>
  obtain ⟨⟨a1, a2⟩, a3⟩ := ih
  obtain ⟨⟨b1, b2⟩, b3, b4⟩ := hf t.1 (by omega)
  obtain ⟨⟨c1, c2⟩, c3⟩ := hg _ _ _ _ _ h2 (by omega) (by omega)
  refine ⟨⟨c1, c2⟩, ?_⟩
  rw [List.length_append, List.length_singleton]
  omega
theorem ko_of_below {W W' : World} (h : Below W.heap.size W W') : KeepsOthers W W' := ⟨h.size, fun k o hk _ => (h.block k (Array.getElem?_eq_some_iff.1 hk).1).trans hk⟩
set_option maxHeartbeats 4000000 in
theorem pays_in (F : Fence) (n : Nat) (h15 : F.fn 20) (h59 : F.fn 60) (h85 : F.fn 77) (h61 : F.fn 61) (h62 : F.fn 62) (hro : F.round = none) (hC : ∀ {f : FuncId} {args : Array Value} {w : World} {R : Ending -> World -> Prop}, Calls Tryz.prog f args w R -> ∀ k, CallsIn F k Tryz.prog f args w R) (hn : 3 <= n) (bs bl cap M : Nat) (fa fb : Nat -> Int) (gv : Nat -> Int -> Int -> Int -> Int -> Prop) (w : World) (hM : M <= 3)
  (hs : w.cell? ⟨bs, 0, none⟩ = some (.slice (some ⟨bl, 0, none⟩) (M + 1) cap)) (hf : ∀ i, i <= M -> (0 <= fa i /\ fa i <= 1000000) /\ 0 <= fb i /\ fb i <= 1000000) (hg : ∀ i x y u v, gv i x y u v -> 0 <= x -> 0 <= y -> (0 <= u /\ 0 <= v) /\ u + v = x + y)
  (hl : ∀ i, i <= M -> ∃ b c, w.cell? ⟨bl, i * 10 + 9, none⟩ = some (.slice (some ⟨b, 0, none⟩) 2 c) /\ ∀ W, Below w.heap.size w W -> Calls Tryz.prog 61 #[.slice (some ⟨b, 0, none⟩) 2 c] W fun e W' => ∃ nb c', e = .returned (.slice (some ⟨nb, 0, none⟩) 2 c') /\ 2 <= c' /\ W.heap.size <= nb /\ Two W' nb (fa i) (fb i) /\ Below W.heap.size W W')
  (hv : ∀ i, i <= M -> ∀ W nb c x y, Below w.heap.size w W -> w.heap.size <= nb -> 2 <= c -> Two W nb x y -> Sm x -> Sm y -> Calls Tryz.prog 62 #[.pointer (some ⟨bl, i * 10, none⟩), .slice (some ⟨nb, 0, none⟩) 2 c] W fun e W' => ∃ nb' c' u v, e = .returned (.slice (some ⟨nb', 0, none⟩) 2 c') /\ 2 <= c' /\ gv i x y u v /\ (nb' = nb ∨ W.heap.size <= nb') /\ Two W' nb' u v /\ Below W.heap.size W W') :
  CallsIn F n Tryz.prog 20 #[.pointer (some ⟨bs, 0, none⟩)] w fun e w' => ∃ nb c u v, e = .returned (.slice (some ⟨nb, 0, none⟩) 2 c) /\ 2 <= c /\ w.heap.size <= nb /\ Two w' nb u v /\ ChL fa fb gv (dn M (M + 1)) u v /\ Below w.heap.size w w' := by
 have hn1 : 1 <= n := by omega
 have hn2 : 1 <= n - 1 - 1 := by omega
 refine callsIn_of_wp_marks Tryz.func20 rfl h15 ?_ hro
 simp only [Tryz.ntmps20, List.size_toArray, List.length_cons, List.length_nil, Nat.reduceAdd, Nat.reduceSub, Array.replicate_succ, Array.replicate_zero, List.push_toArray, List.append_toArray, List.nil_append, List.cons_append]
 gi_wp2_with (gi_at_call 60; refine (outward_in F (n - 1) h59 hro _ _).mono ?_; rintro e w' ⟨rfl, rfl⟩)
 obtain ⟨W0, hW0⟩ : ∃ W0, ((w.alloc (Obj.cells #[Value.slice none 0 0] 40)).alloc (Obj.cells #[Value.pointer (some { block := bs, off := 0 })] 27)) = W0 := ⟨_, rfl⟩
 rw [hW0]
 have hsz : W0.heap.size = w.heap.size + 2 := by rw [← hW0]; simp
 have hB0 : Below w.heap.size w W0 := by rw [← hW0]; exact ((Below.refl _ w).alloc (Nat.le_refl _) _).alloc (by simp) _
 have g0 : W0.heap[w.heap.size]? = some (.cells #[.slice none 0 0] 40) := by
  rw [← hW0, Below.heap_alloc _ _ _ (by rw [World.size_alloc]; omega)]
  exact World.alloc_heap_new w _
 have g2 : W0.heap[w.heap.size + 1]? = some (.cells #[.pointer (some ⟨bs, 0, none⟩)] 27) := by
  have := World.alloc_heap_new (w.alloc (Obj.cells #[Value.slice none 0 0] 40)) (Obj.cells #[Value.pointer (some { block := bs, off := 0 })] 27)
  rw [World.size_alloc] at this
  rw [← hW0]; exact this
 have ltc : ∀ {a : Addr} {v : Value}, w.cell? a = some v -> a.block < w.heap.size := fun {a v} h => by
  unfold World.cell? at h
  cases ho : w.heap[a.block]? with
  | none => simp [ho] at h
  | some o => exact (Array.getElem?_eq_some_iff.1 ho).1
 refine wpIn_rangeFunc_ownF hro hn1 (gf := 77) (lb := #[.pointer (some ⟨w.heap.size + 1, 0, none⟩)]) rfl h85 (enters_of Tryz.func77 (by kernel_rfl) rfl)
  (outward_stops F (n - 1) h85 hro (by omega) (w.heap.size + 1) bs bl cap M w.heap.size (ltc hs) (by omega) W0 (by omega) (by omega) (cell_of g2 rfl) ((hB0.cell (p := ⟨bs, 0, none⟩) (ltc hs)).trans hs)) (fun h k => kpO_t h k)
  (fun W l o o' hl ho h1 h2 => ⟨belowK_b (w := w) (Nat.le_refl _) W l o o' (by omega) ho h1 h2, World.putObj_heap_other (by omega)⟩) (Below.refl _ _) (fun _ => rfl)
  (fun pre W => (W0.heap.size <= W.heap.size /\ ∃ x y, ChL fa fb gv pre x y /\ GvS w.heap.size w.heap.size W pre.length x y) /\ Below w.heap.size w W)
  (fun _ _ _ => False)
  (OwnFrom.and (Own.from (fun s A B row hs hg hr => by
   obtain ⟨h0, x, y, h1, g, l, c, h2, h3⟩ := hs
   refine ⟨Nat.le_trans h0 hg.size, x, y, h1, g, l, c, blk_kept h2 hg hr, h3.imp id fun ⟨q1, nb, q2, q3, q4, q5, q6, q7⟩ => ⟨q1, nb, q2, q3, q4, q5, q6, q7.kept hg hr⟩⟩) _) (ownFrom_below (Nat.le_refl _) (by omega)))
  (fun _ _ _ _ _ hs _ _ => hs)
  ⟨⟨Nat.le_refl _, 0, 0, .nil, none, 0, 0, g0, .inl ⟨rfl, rfl, rfl, rfl, rfl, rfl⟩⟩, hB0⟩
  (fun x => { tmps := #[.pointer (some ⟨bs, 0, none⟩), undef, .slice none 0 0, .pointer (some ⟨w.heap.size, 0, none⟩), undef, .pointer (some ⟨bl, x.1 * 10, none⟩), undef, undef, undef, .pointer (some ⟨bs, 0, none⟩), .bool false, .pointer (some ⟨bs, 0, none⟩),
   .func (.func 77) #[] #[.pointer (some ⟨w.heap.size + 1, 0, none⟩)], .int .i64 (x.1 : Int), .pointer (some ⟨bl, x.1 * 10, none⟩), undef, undef, undef, undef, undef, undef, undef, undef, undef, undef, undef, undef, undef, undef, undef, undef, undef, undef, undef, undef, undef, undef, undef, undef], defers := [] }) ?assign ?body ?done ?stop
 case assign =>
  intro l x W K hK
  gi_wp2
  exact hK
 case body =>
  rintro l pre x W ⟨⟨hs2, gx, gy, hch, g, gl, gc, hbox, hgv⟩, hB⟩ hlen
  have hx : x.1 <= M := by omega
  have blt : ∀ {a : Addr} {v : Value}, w.cell? a = some v -> W.cell? a = some v := fun {a v} h => (hB.cell (p := a) (ltc h)).trans h
  obtain ⟨bx, cx, hst, hcl⟩ := hl x.1 hx
  have hst := blt hst
  obtain ⟨⟨m1, m2⟩, m3⟩ := hch.small hf hg
  obtain ⟨⟨n1, n2⟩, n3, n4⟩ := hf x.1 hx
  gi_wp2_with (gi_at_call 61; refine (CallsIn.inRound l (hC (hcl _ hB) _)).mono ?_; rintro e W2 ⟨nb, c2, rfl, hc2, hge, h2, hB2⟩; have cbox := cell_of ((hB2.block _ (by omega)).trans hbox) (i := 0) rfl)
  gi_loopw [22] (fun i wr => ∃ k : Nat, k <= gl /\ i = .int .i64 k /\ Two wr nb (if 1 <= k then fa x.1 + gx else fa x.1) (if 2 <= k then fb x.1 + gy else fb x.1) /\ Below W.heap.size W wr)
   (fun i _ => gl - (intOf i).toNat)
  case atStart => exact ⟨0, by omega, rfl, h2, hB2⟩
  case round =>
   obtain ⟨k, hk, rfl, q1, q2⟩ := hrel
   by_cases hlt : k < gl
   ·rcases hgv with ⟨-, -, hl0, -⟩ | ⟨-, nb0, rfl, rfl, hc0, q4, q5, q6⟩
    ·omega
    have q6r := q6.below q2 q6.lt
    match k, hk, hlt with
    | 0, _, _ =>
     have a0 := q6r.c0
     have a1 := q1.c0
     have a2 := q1.f0
     gi_wp2
     exact ⟨⟨1, by omega, rfl, by have := q1.set0 (x' := fa x.1 + gx); simpa using this, q2.setCell (p := ⟨nb, 0, none⟩) hge _⟩, by simp [intOf]⟩
    | 1, _, _ =>
     have a0 := q6r.c1
     have a1 := q1.c1
     have a2 := q1.f1
     gi_wp2
     exact ⟨⟨2, by omega, rfl, by have := q1.set1 (y' := fb x.1 + gy); simpa using this, q2.setCell (p := ⟨nb, 1, none⟩) hge _⟩, by simp [intOf]⟩
   ·have hkg : k = gl := by omega
    have hgx : gl = 0 -> gx = 0 /\ gy = 0 := fun e => by
     rcases hgv with ⟨-, -, -, -, e1, e2⟩ | ⟨-, -, -, e1, -⟩
     ·exact ⟨e1, e2⟩
     ·omega
    have hgl : gl = 0 ∨ gl = 2 := by
     rcases hgv with ⟨-, -, e1, -⟩ | ⟨-, -, -, e1, -⟩
     ·exact .inl e1
     ·exact .inr e1
    have hT : Two wr nb (fa x.1 + gx) (fb x.1 + gy) := by
     rcases hgl with e | e
     ·obtain ⟨e1, e2⟩ := hgx e
      rw [hkg, e] at q1
      rw [e1, e2, Int.add_zero, Int.add_zero]
      exact q1
     ·rw [hkg, e] at q1
      exact q1
    have hBw : Below w.heap.size w wr := hB.trans (q2.mono hB.size)
    have hlen' : (pre.length : Int) <= M := by omega
    clear q1
    gi_wp2_with (gi_at_call 62; refine (CallsIn.inRound l (hC (hv x.1 hx wr nb c2 _ _ hBw (Nat.le_trans hB.size hge) hc2 hT ⟨by omega, by omega⟩ ⟨by omega, by omega⟩) _)).mono ?_; rintro e W3 ⟨nb', c', u, v, rfl, hc', hgo, hor, hT3, hB3⟩; have hB4 := q2.trans (hB3.mono q2.size); have hbox3 := (hB4.block _ (by omega)).trans hbox; have fbox := free_of (i := 0) hbox3; have cbox3 := cell_of hbox3 (i := 0) rfl)
    have z1 := hB.size
    have z2 := q2.size
    have z3 := hB4.size
    have z4 : w.heap.size <= nb' := by omega
    have z5 : nb' ≠ w.heap.size := by omega
    refine ⟨(ko_of_below hB4).trans (KeepsOthers.setCell _ _ _), ⟨(hB4.mono hB.size).setCell (p := ⟨w.heap.size, 0, none⟩) (Nat.le_refl _) _, (Below.heap_setCell _ _ _ _ (by show w.heap.size + 1 ≠ w.heap.size; omega)).trans (hB4.block _ (by omega))⟩,
     ⟨?_, u, v, .snoc hch hgo, _, _, _, Go.Joins.block_setCell hbox3 _, .inr ⟨by simp, nb', rfl, rfl, hc', z4, z5, hT3.of (Below.heap_setCell _ _ _ _ z5)⟩⟩, (hB.trans (hB4.mono hB.size)).setCell (p := ⟨w.heap.size, 0, none⟩) (Nat.le_refl _) _⟩
    have := ((Below.refl 0 W3).setCell (p := ⟨w.heap.size, 0, none⟩) (Nat.zero_le _) (.slice (some ⟨nb', 0, none⟩) 2 c')).size
    omega
 case done =>
  rintro D ys W hD rfl ⟨⟨-, gx, gy, hch, g, gl, gc, hbox, hgv⟩, hB⟩ hK
  rw [dn_length] at hgv
  rcases hgv with ⟨q1, -⟩ | ⟨-, nb, rfl, rfl, q4, q5, q6, q7⟩
  ·omega
  have c2 := cell_of hbox (i := 0) rfl
  gi_wp2
  refine ⟨by simp, .inl ⟨_, _, rfl, run_takeDeferred hK, ?_⟩⟩
  refine ⟨_, results_tmp rfl _ _ _, nb, gc, gx, gy, rfl, q4, q5, q7.of (World.putObj_heap_other ?_), hch, hB.trans (belowK_b (w := w) (Nat.le_refl _) W D _ _ (by omega) hK rfl rfl)⟩
  rintro rfl
  obtain ⟨cs, fz, zs, h1, -⟩ := q7
  rw [h1] at hK
  cases hK
 case stop =>
  rintro D c pre W _ _ h _
  exact h.elim
end Go.Proofs.YtfkacmmcgncooaaGreatDoor
end
