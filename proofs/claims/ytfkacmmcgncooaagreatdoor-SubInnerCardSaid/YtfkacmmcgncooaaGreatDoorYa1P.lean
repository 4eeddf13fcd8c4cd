/- What move an act makes, at a position, is what is told of it. -/
import Derived.Test.YtfkacmmcgncooaaGreatDoorYp3
import Derived.Test.YtfkacmmcgncooaaGreatDoorEv24
import Derived.Test.YtfkacmmcgncooaaGreatDoorYp1
section
set_option maxRecDepth 100000
namespace Go.Proofs.YtfkacmmcgncooaaGreatDoor
open Go.Ev
set_option linter.unusedSectionVars false
variable [Go.Ev.Frozen Tryz.prog]
abbrev QYa1P_1 (a0 : MoX) : Prop := (Z1 a0.2 ∧ (false = false ∧ (0 = 0 ∧ 1 = 1 ∧ 1 = 1) ∧ (0 : Int) = 0 ∧ (0 : Int) = 0 ∧ (0 : Int) = 0 ∧ (0 : Int) = 0 ∧ (0 : Int) = 0 ∧ (0 : Int)
 = 0 ∧ (0 : Int) = 0 ∧ (0 : Int) = 0 ∧ True) ∧ True) ∧ (True ∧ Z1 a0.3 ∧ True) ∧ True
abbrev QYa1P_12 : Prop := (0 : Int) = 0 ∧ (0 : Int) = 0 ∧ (0 : Int) = 0 ∧ (0 : Int) = 0 ∧ (0 : Int) = 0 ∧ (0 : Int) = 0 ∧ (0 : Int) = 0 ∧ (20 : Int) = 20 ∧ (20 : Int) = 20 ∧ True
abbrev QYa1P_2 : Prop := (0 = 0 ∧ (Int.ofNat 84 = (84 : Int) ∧ Int.ofNat 20 = (20 : Int) ∧ Int.ofNat 162 = (162 : Int) ∧ Int.ofNat 125 = (125 : Int) ∧ Int.ofNat 185 = (185 : Int) ∧
 Int.ofNat 95 = (95 : Int) ∧ Int.ofNat 193 = (193 : Int) ∧ Int.ofNat 130 = (130 : Int) ∧ True) ∧ True) ∧ (True ∧ Int.ofNat 1 = (1 : Int) ∧ QYa1P_12) ∧ True
abbrev QYa1P_3 (a0 : D8) (a1 : D8) : Prop := (true = true ∧ (0 = 0 ∧ 0 = 0) ∧ a0.1 = a1.1 ∧ a0.2 = a1.2 ∧ a0.3 = a1.3 ∧ a0.4 = a1.4 ∧ a0.5 = a1.5 ∧ a0.6 = a1.6 ∧ a0.7 = a1.7 ∧ a0.8
 = a1.8 ∧ True) ∧ True
abbrev QYa1P_14 : Prop := (True ∧ True) ∧ True ∧ True ∧ True ∧ True ∧ (True ∧ True) ∧ True ∧ True
abbrev QYa1P_4 (a0 : Int) (a1 : MoX) : Prop := ¬(a0 = (0 : Int)) → QYa1P_14 ∧ ∃ (_ : Unit), ((0 : Int) < Int.ofNat 6 ∧ a1.1 % (5 : Int) = 0 → False) ∧ QYa1P_1 a1
abbrev QYa1P_5 : Prop := True ∧ True ∧ True ∧ True ∧ True ∧ True ∧ True ∧ True ∧ True ∧ True ∧ True ∧ (True ∧ True) ∧ (True ∧ True ∧ True) ∧ True ∧ True ∧ True
abbrev QYa1P_6 : Prop := (0 = 0 ∧ (Int.ofNat 195 = (195 : Int) ∧ Int.ofNat 192 = (192 : Int) ∧ Int.ofNat 90 = (90 : Int) ∧ Int.ofNat 36 = (36 : Int) ∧ Int.ofNat 52 = (52 : Int) ∧
 Int.ofNat 89 = (89 : Int) ∧ Int.ofNat 115 = (115 : Int) ∧ Int.ofNat 35 = (35 : Int) ∧ True) ∧ True) ∧ (True ∧ Int.ofNat 2 = (2 : Int) ∧ QYa1P_12) ∧ True
abbrev QYa1P_7 (a0 : D8) : Prop := List.Mem (Int.ofNat 1, [Int.ofNat 84, Int.ofNat 20, Int.ofNat 162, Int.ofNat 125, Int.ofNat 185, Int.ofNat 95, Int.ofNat 193, Int.ofNat 130],
 [a0.1, a0.2, a0.3, a0.4, a0.5, a0.6, a0.7, a0.8]) ansT
abbrev QYa1P_8 : Prop := True ∧ ∃ (b0 : List Int), (Int.ofNat 1, [Int.ofNat 84, Int.ofNat 20, Int.ofNat 162, Int.ofNat 125, Int.ofNat 185, Int.ofNat 95, Int.ofNat 193, Int.ofNat
 130], b0) ∈ ansT
abbrev QYa1P_13 (a0 : MoA) (a1 : D8) : Prop := a0.1.1 % (5 : Int) = 0 ∧ ∃ (b0 b1 : Nat) (b2 : Int), (b0, b1) ∈ allG ∧ a0.2 = posG b0 b1 ∧ (b0, b1, a0.2.7, [a1.1, a1.2, a1.3, a1.4,
 a1.5, a1.6, a1.7, a1.8], b2) ∈ showT
abbrev QYa1P_9 (a0 : MoA) : Prop := ∃ (b0 : D8), QYa1P_13 a0 b0 ∧ (Z1 a0.2.7 ∧ (true = true ∧ (0 = 0 ∧ 0 = 0) ∧ b0.1 = 0 ∧ b0.2 = 0 ∧ b0.3 = 0 ∧ b0.4 = 0 ∧ b0.5 = 0 ∧ b0.6 = 0 ∧
 b0.7 = 0 ∧ b0.8 = 0 ∧ True) ∧ True) ∧ True
abbrev QYa1P_10 (a0 : D8) : Prop := List.Mem (Int.ofNat 2, [Int.ofNat 195, Int.ofNat 192, Int.ofNat 90, Int.ofNat 36, Int.ofNat 52, Int.ofNat 89, Int.ofNat 115, Int.ofNat 35],
 [a0.1, a0.2, a0.3, a0.4, a0.5, a0.6, a0.7, a0.8]) ansT
abbrev QYa1P_11 : Prop := True ∧ ∃ (b0 : List Int), (Int.ofNat 2, [Int.ofNat 195, Int.ofNat 192, Int.ofNat 90, Int.ofNat 36, Int.ofNat 52, Int.ofNat 89, Int.ofNat 115, Int.ofNat
 35], b0) ∈ ansT
abbrev QYa1P_15 (a0 : MoA) : Prop := ∃ (_ : Unit), (0 < a0.2.5 ∧ a0.1.1 % (5 : Int) = 0 → False) ∧ QYa1P_1 a0.1
theorem vc_moveN (a : MoA) : G_moveN a = ((0 < a.2.5 → (5 : Int) ≠ (0 : Int) ∧ (∀ (x0 : Int), x0 = Int.tmod a.1.1 (5 : Int) → (x0 = (0 : Int) → (a.2.7 < 0 → QYa1P_9 a) ∧ (¬(a.2.7 < 0) → (1 < a.2.7 → QYa1P_9 a) ∧ (¬(1 <
a.2.7) → (0 ≤ a.2.7 ∧ a.2.7 < 2) ∧ (∀ (x9 : Nat), x9 = 0 + Int.toNat a.2.7 * 1 → False)))) ∧ (¬(x0 = (0 : Int)) → QYa1P_14 ∧ QYa1P_15 a))) ∧ (¬(0 < a.2.5) → QYa1P_14 ∧ QYa1P_15 a)) := by kernel_rfl
theorem vc_cmov (a : MoA) : G_cmov a = ((True ∧ (0 ≤ a.1.1 ∧ a.1.1 < 256) ∧ (FlatL a.2.1 ∧ FlatL a.2.2 ∧ FlatL a.2.3) ∧ ¬(0 < a.2.5)) ∧ (((Z1 a.1.1 ∧ Z1 a.1.2 ∧ Z1 a.1.3 ∧ Z1 a.1.4 ∧ Value.slice a.1.5 a.1.6 a.1.7 =
Value.slice a.1.5 a.1.6 a.1.7 ∧ True) ∧ (Z2 ∧ Z2 ∧ Z2 ∧ Z1 a.2.4 ∧ Z1 a.2.5 ∧ Z1 a.2.6 ∧ Z1 a.2.7 ∧ Z1 a.2.8 ∧ True) ∧ True) ∧ ZF a.2.1 ∧ ZF a.2.2 ∧ ZF a.2.3 ∧ ZF cells0 ∧ ZF
cells1 ∧ ZF cells2 ∧ ZF cells4 ∧ ZF cells5 ∧ ZF cells6 ∧ ZF cells8 ∧ ZF cells9 ∧ ZF cells10 ∧ True) ∧ (∀ (x0 : D8), a.1.1 % (5 : Int) = 0 ∧ (∃ (x1 x2 : Nat) (x3 : Int), (x1, x2) ∈
allG ∧ PoA.mk a.2.1 a.2.2 a.2.3 a.2.4 a.2.5 a.2.6 a.2.7 a.2.8 = posG x1 x2 ∧ (x1, x2, a.2.7, [x0.1, x0.2, x0.3, x0.4, x0.5, x0.6, x0.7, x0.8], x3) ∈ showT) → ∃ (x4 : D8), QYa1P_13
a x4 ∧ (Z1 a.2.7 ∧ QYa1P_3 x4 x0) ∧ True) ∧ (∀ (_ : Unit), (0 < a.2.5 ∧ a.1.1 % (5 : Int) = 0 → False) → QYa1P_15 a) ∧ True) := by kernel_rfl
theorem vc_mov1 (x : MoX) : G_mov1 x = ((5 : Int) ≠ (0 : Int) ∧ ∀ (x0 : Int), x0 = Int.tmod x.1 (5 : Int) → (x0 = (0 : Int) → QYa1P_11 ∧ QYa1P_6 ∧ (∀ (x2 : D8), QYa1P_10 x2 → QYa1P_5 ∧ (True ∧ True ∧ True ∧ True ∧ True
∧ True) ∧ ∃ (x3 : D8), (x.1 % (5 : Int) = 0 ∧ (∃ (x4 x5 : Nat) (x6 : Int), (x4, x5) ∈ allG ∧ PoA.mk (List.map (Value.int .i32) [(0 : Int), (1 : Int)]) (List.map Value.bool [false,
false]) (List.map (Value.int .u8) [(84 : Int), (20 : Int), (162 : Int), (125 : Int), (185 : Int), (95 : Int), (193 : Int), (130 : Int), (195 : Int), (192 : Int), (90 : Int), (36 :
Int), (52 : Int), (89 : Int), (115 : Int), (35 : Int)]) (0 : Int) (6 : Int) (0 : Int) (1 : Int) (0 : Int) = posG x4 x5 ∧ (x4, x5, Int.ofNat 1, [x3.1, x3.2, x3.3, x3.4, x3.5, x3.6,
x3.7, x3.8], x6) ∈ showT)) ∧ (Int.ofNat 1 = Int.ofNat 1 ∧ QYa1P_3 x3 x2) ∧ True) ∧ True) ∧ QYa1P_4 x0 x) := by kernel_rfl
theorem vc_mov4 (x : MoX) : G_mov4 x = ((5 : Int) ≠ (0 : Int) ∧ ∀ (x0 : Int), x0 = Int.tmod x.1 (5 : Int) → (x0 = (0 : Int) → QYa1P_11 ∧ QYa1P_6 ∧ (∀ (x2 : D8), QYa1P_10 x2 → QYa1P_5 ∧ (True ∧ True ∧ True ∧ True ∧ True
∧ True) ∧ ∃ (x3 : D8), (x.1 % (5 : Int) = 0 ∧ (∃ (x4 x5 : Nat) (x6 : Int), (x4, x5) ∈ allG ∧ PoA.mk (List.map (Value.int .i32) [(0 : Int), (1 : Int)]) (List.map Value.bool [true,
false]) (List.map (Value.int .u8) [(84 : Int), (20 : Int), (162 : Int), (125 : Int), (185 : Int), (95 : Int), (193 : Int), (130 : Int), (195 : Int), (192 : Int), (90 : Int), (36 :
Int), (52 : Int), (89 : Int), (115 : Int), (35 : Int)]) (0 : Int) (6 : Int) (0 : Int) (1 : Int) (0 : Int) = posG x4 x5 ∧ (x4, x5, Int.ofNat 1, [x3.1, x3.2, x3.3, x3.4, x3.5, x3.6,
x3.7, x3.8], x6) ∈ showT)) ∧ (Int.ofNat 1 = Int.ofNat 1 ∧ QYa1P_3 x3 x2) ∧ True) ∧ True) ∧ QYa1P_4 x0 x) := by kernel_rfl
theorem vc_mov5 (x : MoX) : G_mov5 x = ((5 : Int) ≠ (0 : Int) ∧ ∀ (x0 : Int), x0 = Int.tmod x.1 (5 : Int) → (x0 = (0 : Int) → QYa1P_8 ∧ QYa1P_2 ∧ (∀ (x2 : D8), QYa1P_7 x2 → QYa1P_5 ∧ (True ∧ True ∧ True ∧ True ∧ True ∧
True) ∧ ∃ (x3 : D8), (x.1 % (5 : Int) = 0 ∧ (∃ (x4 x5 : Nat) (x6 : Int), (x4, x5) ∈ allG ∧ PoA.mk (List.map (Value.int .i32) [(0 : Int), (1 : Int)]) (List.map Value.bool [false,
false]) (List.map (Value.int .u8) [(84 : Int), (20 : Int), (162 : Int), (125 : Int), (185 : Int), (95 : Int), (193 : Int), (130 : Int), (207 : Int), (183 : Int), (55 : Int), (179 :
Int), (230 : Int), (69 : Int), (18 : Int), (147 : Int)]) (0 : Int) (6 : Int) (0 : Int) (0 : Int) (10597609730307766223 : Int) = posG x4 x5 ∧ (x4, x5, Int.ofNat 0, [x3.1, x3.2,
x3.3, x3.4, x3.5, x3.6, x3.7, x3.8], x6) ∈ showT)) ∧ (Int.ofNat 0 = Int.ofNat 0 ∧ QYa1P_3 x3 x2) ∧ True) ∧ True) ∧ QYa1P_4 x0 x) := by kernel_rfl
theorem vc_mov6 (x : MoX) : G_mov6 x = ((5 : Int) ≠ (0 : Int) ∧ ∀ (x0 : Int), x0 = Int.tmod x.1 (5 : Int) → (x0 = (0 : Int) → QYa1P_8 ∧ QYa1P_2 ∧ (∀ (x2 : D8), QYa1P_7 x2 → QYa1P_5 ∧ (True ∧ True ∧ True ∧ True ∧ True ∧
True) ∧ ∃ (x3 : D8), (x.1 % (5 : Int) = 0 ∧ (∃ (x4 x5 : Nat) (x6 : Int), (x4, x5) ∈ allG ∧ PoA.mk (List.map (Value.int .i32) [(0 : Int), (1 : Int)]) (List.map Value.bool [false,
true]) (List.map (Value.int .u8) [(84 : Int), (20 : Int), (162 : Int), (125 : Int), (185 : Int), (95 : Int), (193 : Int), (130 : Int), (195 : Int), (192 : Int), (90 : Int), (36 :
Int), (52 : Int), (89 : Int), (115 : Int), (35 : Int)]) (0 : Int) (6 : Int) (0 : Int) (0 : Int) (0 : Int) = posG x4 x5 ∧ (x4, x5, Int.ofNat 0, [x3.1, x3.2, x3.3, x3.4, x3.5, x3.6,
x3.7, x3.8], x6) ∈ showT)) ∧ (Int.ofNat 0 = Int.ofNat 0 ∧ QYa1P_3 x3 x2) ∧ True) ∧ True) ∧ QYa1P_4 x0 x) := by kernel_rfl
theorem vc_mov10 (x : MoX) : G_mov10 x = ((5 : Int) ≠ (0 : Int) ∧ ∀ (x0 : Int), x0 = Int.tmod x.1 (5 : Int) → (x0 = (0 : Int) → QYa1P_8 ∧ QYa1P_2 ∧ (∀ (x2 : D8), QYa1P_7 x2 → QYa1P_5 ∧ (True ∧ True ∧ True ∧ True ∧ True ∧
True) ∧ ∃ (x3 : D8), (x.1 % (5 : Int) = 0 ∧ (∃ (x4 x5 : Nat) (x6 : Int), (x4, x5) ∈ allG ∧ PoA.mk (List.map (Value.int .i32) [(0 : Int), (1 : Int)]) (List.map Value.bool [false,
true]) (List.map (Value.int .u8) [(84 : Int), (20 : Int), (162 : Int), (125 : Int), (185 : Int), (95 : Int), (193 : Int), (130 : Int), (207 : Int), (183 : Int), (55 : Int), (179 :
Int), (230 : Int), (69 : Int), (18 : Int), (147 : Int)]) (0 : Int) (6 : Int) (0 : Int) (0 : Int) (10597609730307766223 : Int) = posG x4 x5 ∧ (x4, x5, Int.ofNat 0, [x3.1, x3.2,
x3.3, x3.4, x3.5, x3.6, x3.7, x3.8], x6) ∈ showT)) ∧ (Int.ofNat 0 = Int.ofNat 0 ∧ QYa1P_3 x3 x2) ∧ True) ∧ True) ∧ QYa1P_4 x0 x) := by kernel_rfl
theorem flatAll {c : List Value} (h : lall ftag c = true) : FlatL c := fun v hv => lall_mem h v hv
theorem ans_at {c : Int} {t r : List Int} (h : (c, t, r) ∈ ansT) : (c = 1 ∧ r = [6, 25, 37, 99, 94, 12, 19, 189]) ∨ (c = 2 ∧ r = [207, 183, 55, 179, 230, 69, 18, 147]) := by
  unfold ansT at h
  rcases List.mem_cons.1 h with e | h
  · cases e; exact .inl ⟨rfl, rfl⟩
  rcases List.mem_cons.1 h with e | h
  · cases e; exact .inr ⟨rfl, rfl⟩
  · cases h
theorem ans1 : ((1 : Int), ([84, 20, 162, 125, 185, 95, 193, 130] : List Int), ([6, 25, 37, 99, 94, 12, 19, 189] : List Int)) ∈ ansT := List.mem_cons_self
theorem ans2 : ((2 : Int), ([195, 192, 90, 36, 52, 89, 115, 35] : List Int), ([207, 183, 55, 179, 230, 69, 18, 147] : List Int)) ∈ ansT := List.mem_cons_of_mem _ List.mem_cons_self
theorem g_moveN (a : MoA) (hw : 0 ≤ a.x.w ∧ a.x.w < 256) (h0 : ¬ 0 < a.p.r1) (hf : FlatL a.p.v ∧ FlatL a.p.g ∧ FlatL a.p.t) : GW (G_moveN a) := by
  refine ⟨?_⟩
  rw [vc_moveN]
  (repeat(apply And.intro;focus(and_intros<;>first|trivial|rfl)))
  refine ⟨fun h => absurd h h0, fun _ => ?_⟩
  (repeat(apply And.intro;focus(and_intros<;>first|trivial|rfl)))
  refine ⟨(), fun h => absurd h.1 h0, ?_⟩
  (and_intros<;>first|trivial|rfl)
theorem inA1 : (1, 1) ∈ allG := List.contains_iff_mem.1 (by kernel_rfl)
theorem inS1 : (1, 1, (1 : Int), ([207, 183, 55, 179, 230, 69, 18, 147] : List Int), (5 : Int)) ∈ showT := List.contains_iff_mem.1 (by kernel_rfl)
theorem g_mov1 (x : MoX) (hw : 0 ≤ x.w ∧ x.w < 256) : GW (G_mov1 x) := by
  refine ⟨?_⟩
  rw [vc_mov1]
  (repeat(apply And.intro;focus(and_intros<;>first|trivial|rfl)))
  intro x0 e0
  have e0 : x0 = x.w % 5 := by rw [e0]; exact Int.tmod_eq_emod_of_nonneg hw.1
  refine ⟨fun h0 => ?_, fun h0 => ?_⟩
  · (repeat(apply And.intro;focus(and_intros<;>first|trivial|rfl)))
    refine ⟨⟨trivial, [207, 183, 55, 179, 230, 69, 18, 147], ans2⟩, by (and_intros<;>first|trivial|rfl), fun b hb => ?_, trivial⟩
    (repeat(apply And.intro;focus(and_intros<;>first|trivial|rfl)))
    have hb : ((2 : Int), _, b.l) ∈ ansT := hb
    have hl : b.l = [207, 183, 55, 179, 230, 69, 18, 147] := by
      rcases ans_at hb with ⟨e, h⟩ | ⟨e, h⟩ <;> first | exact h | (cases e; done)
    refine ⟨b, ⟨by omega, 1, 1, 5, inA1, rfl, ?_⟩, ?_⟩
    · show (1, 1, (1 : Int), b.l, (5 : Int)) ∈ showT
      rw [hl]; exact inS1
    · (and_intros<;>first|trivial|rfl)
  · (repeat(apply And.intro;focus(and_intros<;>first|trivial|rfl)))
    refine ⟨(), fun h => by omega, ?_⟩
    (and_intros<;>first|trivial|rfl)
theorem inA4 : (1, 4) ∈ allG := List.contains_iff_mem.1 (by kernel_rfl)
theorem inS4 : (1, 4, (1 : Int), ([207, 183, 55, 179, 230, 69, 18, 147] : List Int), (7 : Int)) ∈ showT := List.contains_iff_mem.1 (by kernel_rfl)
theorem g_mov4 (x : MoX) (hw : 0 ≤ x.w ∧ x.w < 256) : GW (G_mov4 x) := by
  refine ⟨?_⟩
  rw [vc_mov4]
  (repeat(apply And.intro;focus(and_intros<;>first|trivial|rfl)))
  intro x0 e0
  have e0 : x0 = x.w % 5 := by rw [e0]; exact Int.tmod_eq_emod_of_nonneg hw.1
  refine ⟨fun h0 => ?_, fun h0 => ?_⟩
  · (repeat(apply And.intro;focus(and_intros<;>first|trivial|rfl)))
    refine ⟨⟨trivial, [207, 183, 55, 179, 230, 69, 18, 147], ans2⟩, by (and_intros<;>first|trivial|rfl), fun b hb => ?_, trivial⟩
    (repeat(apply And.intro;focus(and_intros<;>first|trivial|rfl)))
    have hb : ((2 : Int), _, b.l) ∈ ansT := hb
    have hl : b.l = [207, 183, 55, 179, 230, 69, 18, 147] := by
      rcases ans_at hb with ⟨e, h⟩ | ⟨e, h⟩ <;> first | exact h | (cases e; done)
    refine ⟨b, ⟨by omega, 1, 4, 7, inA4, rfl, ?_⟩, ?_⟩
    · show (1, 4, (1 : Int), b.l, (7 : Int)) ∈ showT
      rw [hl]; exact inS4
    · (and_intros<;>first|trivial|rfl)
  · (repeat(apply And.intro;focus(and_intros<;>first|trivial|rfl)))
    refine ⟨(), fun h => by omega, ?_⟩
    (and_intros<;>first|trivial|rfl)
theorem inA5 : (1, 5) ∈ allG := List.contains_iff_mem.1 (by kernel_rfl)
theorem inS5 : (1, 5, (0 : Int), ([6, 25, 37, 99, 94, 12, 19, 189] : List Int), (9 : Int)) ∈ showT := List.contains_iff_mem.1 (by kernel_rfl)
theorem g_mov5 (x : MoX) (hw : 0 ≤ x.w ∧ x.w < 256) : GW (G_mov5 x) := by
  refine ⟨?_⟩
  rw [vc_mov5]
  (repeat(apply And.intro;focus(and_intros<;>first|trivial|rfl)))
  intro x0 e0
  have e0 : x0 = x.w % 5 := by rw [e0]; exact Int.tmod_eq_emod_of_nonneg hw.1
  refine ⟨fun h0 => ?_, fun h0 => ?_⟩
  · (repeat(apply And.intro;focus(and_intros<;>first|trivial|rfl)))
    refine ⟨⟨trivial, [6, 25, 37, 99, 94, 12, 19, 189], ans1⟩, by (and_intros<;>first|trivial|rfl), fun b hb => ?_, trivial⟩
    (repeat(apply And.intro;focus(and_intros<;>first|trivial|rfl)))
    have hb : ((1 : Int), _, b.l) ∈ ansT := hb
    have hl : b.l = [6, 25, 37, 99, 94, 12, 19, 189] := by
      rcases ans_at hb with ⟨e, h⟩ | ⟨e, h⟩ <;> first | exact h | (cases e; done)
    refine ⟨b, ⟨by omega, 1, 5, 9, inA5, rfl, ?_⟩, ?_⟩
    · show (1, 5, (0 : Int), b.l, (9 : Int)) ∈ showT
      rw [hl]; exact inS5
    · (and_intros<;>first|trivial|rfl)
  · (repeat(apply And.intro;focus(and_intros<;>first|trivial|rfl)))
    refine ⟨(), fun h => by omega, ?_⟩
    (and_intros<;>first|trivial|rfl)
theorem inA6 : (1, 6) ∈ allG := List.contains_iff_mem.1 (by kernel_rfl)
theorem inS6 : (1, 6, (0 : Int), ([6, 25, 37, 99, 94, 12, 19, 189] : List Int), (11 : Int)) ∈ showT := List.contains_iff_mem.1 (by kernel_rfl)
theorem g_mov6 (x : MoX) (hw : 0 ≤ x.w ∧ x.w < 256) : GW (G_mov6 x) := by
  refine ⟨?_⟩
  rw [vc_mov6]
  (repeat(apply And.intro;focus(and_intros<;>first|trivial|rfl)))
  intro x0 e0
  have e0 : x0 = x.w % 5 := by rw [e0]; exact Int.tmod_eq_emod_of_nonneg hw.1
  refine ⟨fun h0 => ?_, fun h0 => ?_⟩
  · (repeat(apply And.intro;focus(and_intros<;>first|trivial|rfl)))
    refine ⟨⟨trivial, [6, 25, 37, 99, 94, 12, 19, 189], ans1⟩, by (and_intros<;>first|trivial|rfl), fun b hb => ?_, trivial⟩
    (repeat(apply And.intro;focus(and_intros<;>first|trivial|rfl)))
    have hb : ((1 : Int), _, b.l) ∈ ansT := hb
    have hl : b.l = [6, 25, 37, 99, 94, 12, 19, 189] := by
      rcases ans_at hb with ⟨e, h⟩ | ⟨e, h⟩ <;> first | exact h | (cases e; done)
    refine ⟨b, ⟨by omega, 1, 6, 11, inA6, rfl, ?_⟩, ?_⟩
    · show (1, 6, (0 : Int), b.l, (11 : Int)) ∈ showT
      rw [hl]; exact inS6
    · (and_intros<;>first|trivial|rfl)
  · (repeat(apply And.intro;focus(and_intros<;>first|trivial|rfl)))
    refine ⟨(), fun h => by omega, ?_⟩
    (and_intros<;>first|trivial|rfl)
theorem inA10 : (1, 10) ∈ allG := List.contains_iff_mem.1 (by kernel_rfl)
theorem inS10 : (1, 10, (0 : Int), ([6, 25, 37, 99, 94, 12, 19, 189] : List Int), (12 : Int)) ∈ showT := List.contains_iff_mem.1 (by kernel_rfl)
theorem g_mov10 (x : MoX) (hw : 0 ≤ x.w ∧ x.w < 256) : GW (G_mov10 x) := by
  refine ⟨?_⟩
  rw [vc_mov10]
  (repeat(apply And.intro;focus(and_intros<;>first|trivial|rfl)))
  intro x0 e0
  have e0 : x0 = x.w % 5 := by rw [e0]; exact Int.tmod_eq_emod_of_nonneg hw.1
  refine ⟨fun h0 => ?_, fun h0 => ?_⟩
  · (repeat(apply And.intro;focus(and_intros<;>first|trivial|rfl)))
    refine ⟨⟨trivial, [6, 25, 37, 99, 94, 12, 19, 189], ans1⟩, by (and_intros<;>first|trivial|rfl), fun b hb => ?_, trivial⟩
    (repeat(apply And.intro;focus(and_intros<;>first|trivial|rfl)))
    have hb : ((1 : Int), _, b.l) ∈ ansT := hb
    have hl : b.l = [6, 25, 37, 99, 94, 12, 19, 189] := by
      rcases ans_at hb with ⟨e, h⟩ | ⟨e, h⟩ <;> first | exact h | (cases e; done)
    refine ⟨b, ⟨by omega, 1, 10, 12, inA10, rfl, ?_⟩, ?_⟩
    · show (1, 10, (0 : Int), b.l, (12 : Int)) ∈ showT
      rw [hl]; exact inS10
    · (and_intros<;>first|trivial|rfl)
  · (repeat(apply And.intro;focus(and_intros<;>first|trivial|rfl)))
    refine ⟨(), fun h => by omega, ?_⟩
    (and_intros<;>first|trivial|rfl)
theorem g_cmov (a : MoA) (hw : 0 ≤ a.x.w ∧ a.x.w < 256) (h0 : ¬ 0 < a.p.r1) (hf : FlatL a.p.v ∧ FlatL a.p.g ∧ FlatL a.p.t) : G_cmov a := by
  obtain ⟨f1, f2, f3⟩ := id hf
  have gl0 : FlatL cells0 := flatAll (by kernel_rfl)
  have gl1 : FlatL cells1 := flatAll (by kernel_rfl)
  have gl2 : FlatL cells2 := flatAll (by kernel_rfl)
  have gl4 : FlatL cells4 := flatAll (by kernel_rfl)
  have gl5 : FlatL cells5 := flatAll (by kernel_rfl)
  have gl6 : FlatL cells6 := flatAll (by kernel_rfl)
  have gl8 : FlatL cells8 := flatAll (by kernel_rfl)
  have gl9 : FlatL cells9 := flatAll (by kernel_rfl)
  have gl10 : FlatL cells10 := flatAll (by kernel_rfl)
  rw [vc_cmov]
  refine ⟨⟨trivial, hw, hf, h0⟩, by (and_intros<;>first|trivial|rfl), fun b hb => ⟨b, hb, ?_⟩, fun u hu => ?_, trivial⟩
  · (and_intros<;>first|trivial|rfl)
  · (repeat(apply And.intro;focus(and_intros<;>first|trivial|rfl)))
    refine ⟨(), hu, ?_⟩
    (and_intros<;>first|trivial|rfl)
theorem cwMv_ok : CwOK Tryz.prog cwMv := cwX_ok (fun _ h => cwRt_ok hk38_ok (cwD_ok s_gans h)) 3
theorem s_moveN : SpecOK Tryz.prog S_moveN.spec := fun a => specG_at (an := []) envOK cwMv_ok fun hp => g_moveN a hp.1 hp.2.2 hp.2.1
theorem pend_all : (allG.all fun q => decide ((gpos q.1 q.2).r1 ≤ 0) || (Nat.beq q.1 1 && (Nat.beq q.2 1 || (Nat.beq q.2 4 || (Nat.beq q.2 5 || (Nat.beq q.2 6 || Nat.beq q.2 10)))))) = true := by kernel_rfl
theorem posH1 : posG 1 1 = posH 1 := by kernel_rfl
theorem s_mov1 (x : MoX) : SpecAt Tryz.prog S_move.spec ⟨x, posH 1⟩ := specG_at (S := S_move) (a := ⟨x, posH 1⟩) (an := []) envOK cwMv_ok fun hp => g_mov1 x hp.1
theorem posH4 : posG 1 4 = posH 4 := by kernel_rfl
theorem s_mov4 (x : MoX) : SpecAt Tryz.prog S_move.spec ⟨x, posH 4⟩ := specG_at (S := S_move) (a := ⟨x, posH 4⟩) (an := []) envOK cwMv_ok fun hp => g_mov4 x hp.1
theorem posH5 : posG 1 5 = posH 5 := by kernel_rfl
theorem s_mov5 (x : MoX) : SpecAt Tryz.prog S_move.spec ⟨x, posH 5⟩ := specG_at (S := S_move) (a := ⟨x, posH 5⟩) (an := []) envOK cwMv_ok fun hp => g_mov5 x hp.1
theorem posH6 : posG 1 6 = posH 6 := by kernel_rfl
theorem s_mov6 (x : MoX) : SpecAt Tryz.prog S_move.spec ⟨x, posH 6⟩ := specG_at (S := S_move) (a := ⟨x, posH 6⟩) (an := []) envOK cwMv_ok fun hp => g_mov6 x hp.1
theorem posH10 : posG 1 10 = posH 10 := by kernel_rfl
theorem s_mov10 (x : MoX) : SpecAt Tryz.prog S_move.spec ⟨x, posH 10⟩ := specG_at (S := S_move) (a := ⟨x, posH 10⟩) (an := []) envOK cwMv_ok fun hp => g_mov10 x hp.1
theorem s_move : SpecOK Tryz.prog S_move.spec := fun a => by
  obtain ⟨x, p⟩ := a
  intro K hp hq
  obtain ⟨hw, k, j, hm, hpos⟩ := id hp
  have hpos : p = posG k j := hpos
  have h1 := List.all_eq_true.1 pend_all (k, j) hm
  simp only [Bool.or_eq_true, Bool.and_eq_true, decide_eq_true_eq] at h1
  rcases h1 with h1 | ⟨hk, h1⟩
  · have hr : p.r1 = (gpos k j).r1 := by rw [hpos]; rfl
    have h0 : ¬ 0 < p.r1 := by omega
    obtain ⟨-, -, -, -, -, -, -, -, f1, f2, f3⟩ := flG_of (g := rulG k) (p := p) ⟨hm, rfl, hpos⟩
    exact spec_call (S := S_moveN) (T := S_move) (b := ⟨x, p⟩) rfl s_moveN (g_cmov ⟨x, p⟩ hw h0 ⟨f1, f2, f3⟩) K hp hq
  · have hk : k = 1 := Nat.eq_of_beq_eq_true hk
    subst hk
    rcases h1 with h1 | h1 | h1 | h1 | h1
    · have h1 := Nat.eq_of_beq_eq_true h1
      rw [h1, posH1] at hpos; subst hpos; exact s_mov1 x K hp hq
    · have h1 := Nat.eq_of_beq_eq_true h1
      rw [h1, posH4] at hpos; subst hpos; exact s_mov4 x K hp hq
    · have h1 := Nat.eq_of_beq_eq_true h1
      rw [h1, posH5] at hpos; subst hpos; exact s_mov5 x K hp hq
    · have h1 := Nat.eq_of_beq_eq_true h1
      rw [h1, posH6] at hpos; subst hpos; exact s_mov6 x K hp hq
    · have h1 := Nat.eq_of_beq_eq_true h1
      rw [h1, posH10] at hpos; subst hpos; exact s_mov10 x K hp hq
end Go.Proofs.YtfkacmmcgncooaaGreatDoor
end

/- Tables within tables: an act is done (what is to be shown). -/
section
set_option maxRecDepth 100000
namespace Go.Proofs.YtfkacmmcgncooaaGreatDoor
open Go.Ev
-- keep Go.Proofs.Tryz.prog turnG isG isGx smQ rightQ onG erQ posG rulG allG Go.Ev.FX twoX partX fitsQ popQ payR doG silG showT ansT inR actG gpos showG cells0 cells1 cells2 cells4 cells5 cells6 cells8 cells9 cells10
structure DoA where
  s : StA
  w : Int
  t : Int
  z : Int
  h : Int
  v : Option Addr
  l : Nat
  c : Nat
structure MvB where
  p : PoA
structure BgB where
  g : RuA
  p : PoA
  b : XyB
def showG (k j : Nat) : Int := match showT.find? (fun e => Nat.beq e.1 k && Nat.beq e.2.1 j) with
  | some e => e.2.2.2.2
  | none => 0
def actG (k j : Nat) (w t z : Int) : Int := if w % 5 = 0 then (if 0 < (gpos k j).r1 then showG k j else doG k j (turnG k j) z) else if w % 5 = 1 then doG k j t z else silG k j t
def movQ (a : DoA) (b : PoA) : Prop := ∃ (k j m : Nat), isG a.s.g a.s.p k j ∧ actG k j a.w a.t a.z = (m : Int) ∧ isG a.s.g b k m
def errQ (a : DoA) (b : TnB) : Prop := b.k ≠ 0 ∧ (a.w % 5 ≤ 2 → 0 < b.k ∧ ∃ k j, isG a.s.g a.s.p k j ∧ actG k j a.w a.t a.z = -b.k)
def begQ (a : DoA) (b : BgB) : Prop := a.w % 5 = 3 ∧ isGx b.g b.p ∧ fitsQ a.s b.b
def endQ (a : DoA) (b : XyB) : Prop := a.w % 5 = 4 ∧ popQ a.s b
variable [Frozen Tryz.prog]
noncomputable section
def S_gshowE : SpecD := { S_gshow with find := fun l A => match lv (agv (lv l 3)) 0 with
  | .bool b => Bool.rec none (S_gshow.find l A) b
  | _ => none }
def S_gdoE : SpecD := { S_gdo with find := fun l A => match lv (agv (lv l 3)) 0 with
  | .bool b => Bool.rec (S_gdo.find l A) none b
  | _ => none }
def actV (a : DoA) : Value := .agg ⟨[tgI .u8 a.w, tgI .i64 a.t, tgI .i32 a.z, tgI .u8 a.h, .iface EXT (.slice a.v a.l a.c)]⟩
def movL (d q : Nat) (a : StA) (p : PoA) : List LvV := ouL d a ++ [⟨inB d, q, inB d + 15, p.ou a.x a.y⟩]
def movN (d q : Nat) (A : AW) : List (Nat × Nat) := let c := rowO A (blI (lv (rowO A 12) 0))
  [(q, blI (lv c (inO d + 1))), (q + 1, blI (lv c (inO d + 2))), (q + 2, blI (lv c (inO d + 3)))]
def pickD (d : Nat) (v : Value) (A : AW) : Nat := match v with
  | .int _ z => Int.rec (fun n => Bool.rec 1 (match lv (rowO A 12) 0 with
    | .slice _ l _ => Bool.rec (Bool.rec 2 3 (Nat.beq (l + 1) d)) 0 (Nat.beq l d)
    | _ => 0) (Nat.beq n 0)) (fun _ => 1) z
  | _ => 1
def begN (d n : Nat) (A : AW) : List (Nat × Nat) := let j := blI (lv (rowO A 12) 0); let c := rowO A j; let o := 10 * d
  ruN A n (lv c o) ++ [(n + 12, blI (lv c (o + 1))), (n + 13, blI (lv c (o + 2))), (n + 14, blI (lv c (o + 3))), (n + 15, blI (lv c (o + 9))), (n + 16, j)]
def endN (d n : Nat) (A : AW) : List (Nat × Nat) := [(n, blI (lv (rowO A 12) 0))]
def outM (d : Nat) : Out DoA := ⟨MvB, fun a b => movQ a b.p, fun _ _ => .int .i64 0, fun a b => stR 12 (12 + 1) d (movL d (popN d) a.s b.p) ++ poR b.p (popN d), fun _ _ => popN d + 3, fun _ A => movN d (popN d) A⟩
def outE (d : Nat) : Out DoA := ⟨TnB, errQ, fun _ b => tgI .i64 b.k, fun a _ => stR 12 (12 + 1) d (stL d a.s), fun _ _ => popN d, fun _ _ => []⟩
def outB (d : Nat) : Out DoA := ⟨BgB, begQ, fun _ _ => .int .i64 0, fun a b => stR 12 (popN d + 16) (d + 1) (ouL d a.s ++ [loV (inB d) (a.s.sub b.b), ⟨popN d, popN d + 12, popN d + 15, b.p.ou b.b.x b.b.y⟩]) ++ (ruT b.g (popN d) ++ (poR b.p (popN d + 12) ++ [(12 + 1, .p .dead)])), fun _ _ => popN d + 17, fun _ A => begN d (popN d) A⟩
def outP (d : Nat) : Out DoA := ⟨XyB, endQ, fun _ _ => .int .i64 0, fun a b => stR 12 (popN d) (d - 1) (popL d a.s b) ++ deadR d, fun _ _ => popN d + 1, fun _ A => endN d (popN d) A⟩
def doP (d : Nat) (a : DoA) : Prop := isGx a.s.g a.s.p ∧ ((smQ a.s.x ∧ smQ a.s.y) ∧ smQ (aroO d a.s).x ∧ smQ (aroO d a.s).y) ∧ ((0 ≤ a.w ∧ a.w < 256) ∧ inR a.z ∧ 0 ≤ a.h ∧ a.h < 256) ∧ twoX a.v a.l a.c
def S_do (d : Nat) (o : List (Out DoA)) : SpecD where
  f := 11
  α := DoA
  args a := [.pointer (some ⟨12, 0, none⟩), actV a]
  R a := memR d a.s ++ [(0, .f cells0 327 .ro), (1, .f cells1 333 .ro), (2, .f cells2 356 .ro), (4, .f cells4 327 .ro), (5, .f cells5 368 .ro), (6, .f cells6 381 .ro), (8, .f cells8 385 .ro), (9, .f cells9 388 .ro), (10, .f cells10 389 .ro)]
  n := popN d
  pre a := doP d a
  outs := outM d :: outE d :: o
  pick v A := pickD d v A
  find l A := stK d A (lv l 0) fun s q => match agv (lv l 1) with
    | [w, t, z, h, x] => wI w fun w => wI t fun t => wI z fun z => wI h fun h => xsK x fun v l c => some (⟨s, w, t, z, h, v, l, c⟩, q)
    | _ => none
abbrev S_do1 : SpecD := { S_do 1 [outB 1] with pick := fun v A => pickD 1 v A }
abbrev S_do2 : SpecD := S_do 2 [outB 2, outP 2]
abbrev S_do3 : SpecD := S_do 3 [outB 3, outP 3]
abbrev S_do4 : SpecD := { S_do 4 [outP 4] with pick := fun v A => Nat.rec 0 (fun n _ => Nat.rec 1 (fun _ _ => 2) n) (pickD 4 v A) }
def cwDo (p : CW → CW) : CW := cwX (fun c => cwD Tryz.prog S_move (cwD Tryz.prog S_gturn (cwE Tryz.prog S_gshowE (cwE Tryz.prog S_gdoE (cwD Tryz.prog S_gsl (cwD Tryz.prog S_gclone (cwD Tryz.prog S_startG (cwE Tryz.prog S_cl2 (p c))))))))) 5
def cwDo1 : CW := cwDo fun c => cwE Tryz.prog (S_push 1) (cwE Tryz.prog S_pop1 c)
def cwDo2 : CW := cwDo fun c => cwE Tryz.prog (S_push 2) (cwE Tryz.prog (S_pop 2) c)
def cwDo3 : CW := cwDo fun c => cwE Tryz.prog (S_push 3) (cwE Tryz.prog (S_pop 3) c)
def cwDo4 : CW := cwDo fun c => cwE Tryz.prog S_push4 (cwE Tryz.prog (S_pop 4) c)
def G_do1 (a : DoA) : Prop := fnW Tryz.prog E0 cwDo1 [] S_do1.f (S_do1.args a) (mem (S_do1.R a) S_do1.n) (endD Tryz.prog S_do1 a)
def G_do2 (a : DoA) : Prop := fnW Tryz.prog E0 cwDo2 [] S_do2.f (S_do2.args a) (mem (S_do2.R a) S_do2.n) (endD Tryz.prog S_do2 a)
def G_do3 (a : DoA) : Prop := fnW Tryz.prog E0 cwDo3 [] S_do3.f (S_do3.args a) (mem (S_do3.R a) S_do3.n) (endD Tryz.prog S_do3 a)
def G_do4 (a : DoA) : Prop := fnW Tryz.prog E0 cwDo4 [] S_do4.f (S_do4.args a) (mem (S_do4.R a) S_do4.n) (endD Tryz.prog S_do4 a)
end
end Go.Proofs.YtfkacmmcgncooaaGreatDoor
end
