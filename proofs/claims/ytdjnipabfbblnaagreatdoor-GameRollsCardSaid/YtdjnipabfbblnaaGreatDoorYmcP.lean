/- The machine: what is told of its instructions is so. -/
import Derived.Test.YtdjnipabfbblnaaGreatDoorYnum
section
set_option maxRecDepth 100000
namespace Go.Proofs.YtdjnipabfbblnaaGreatDoor
open Go.Ev
set_option linter.unusedSectionVars false
variable [Go.Ev.Frozen Tryz.prog]
noncomputable section
def W_G_right_0 : RtA → KI → Option UInt8 := fun (a : RtA) (x2 : KI) => (Array.toList (ByteArray.data (ByteArray.mk (Array.mk (hasC a.1.1)))))[Int.toNat x2.1]?
def W_G_right_1 : UInt8 → Option UInt8 := fun (x4 : UInt8) => Option.some x4
end
abbrev QYmcP_8 (a0 : Int) (a1 : RtA) : Prop := (0 ≤ a0 ∧ a0 ≤ 3) ∧ (0 ≤ a1.1.1 ∧ a1.1.1 < 22) ∧ (1 ≤ a0 → argP (hasC a1.1.1) 0 a1.1.2 a1.2 a1.3) ∧ (2 ≤ a0 → argP (hasC a1.1.1) 1
 a1.1.3 a1.2 a1.3) ∧ (3 ≤ a0 → argP (hasC a1.1.1) 2 a1.1.4 a1.2 a1.3)
abbrev QYmcP_12 (a0 : Int) : Prop := Array.toList (ByteArray.data (ByteArray.mk (Array.mk (hasC a0)))) = Array.toList (ByteArray.data (ByteArray.mk (Array.mk (hasC a0))))
abbrev QYmcP_10 (a0 : Ins) : Prop := a0.2 = a0.2 ∧ a0.3 = a0.3 ∧ a0.4 = a0.4 ∧ True
abbrev QYmcP_1 (a0 : Int) (a1 : RtA) : Prop := ∀ (b0 : Int), b0 = IntKind.wrap .i64 (a0 + (1 : Int)) → ∃ (b1 : KI), QYmcP_8 b1.1 a1 ∧ Int.toNat ((3 : Int) - b1.1) < Int.toNat ((3 :
 Int) - a0) ∧ (a1.2 = a1.2 ∧ a1.3 = a1.3 ∧ 0 = 0 ∧ QYmcP_12 a1.1.1 ∧ QYmcP_10 a1.1 ∧ b1.1 = b0 ∧ True) ∧ ((True ∧ a1.1.1 = a1.1.1 ∧ QYmcP_10 a1.1) ∧ ZF cells4 ∧ True) ∧ True
abbrev QYmcP_2 (a0 : RtA) : Prop := ∃ (_ : Unit), (rightP a0.2 a0.3 a0.1 → False) ∧ false = false ∧ True
abbrev QYmcP_3 (a0 : RtA) : Prop := ∃ (_ : Unit), ((0 ≤ a0.1.1 ∧ a0.1.1 < 22) ∧ (argP (hasC a0.1.1) 0 a0.1.2 a0.2 a0.3 ∧ argP (hasC a0.1.1) 1 a0.1.3 a0.2 a0.3 ∧ argP (hasC a0.1.1)
 2 a0.1.4 a0.2 a0.3) ∧ (a0.1.1 = 0 → a0.1.2 = 0 ∨ a0.1.2 = 1) ∧ (a0.1.1 = 17 → a0.1.3 ≤ a0.1.4) ∧ (a0.1.1 = 18 → 0 ≤ a0.1.4)) ∧ true = true ∧ True
abbrev QYmcP_9 (a0 : Int) (a1 : Int) : Prop := 0 ≤ a0 ∧ a0 < (↑ (List.length (Array.toList (ByteArray.data (ByteArray.mk (Array.mk (hasC a1)))))) : Int)
abbrev QYmcP_4 (a0 : KI) (a1 : RtA) : Prop := QYmcP_9 a0.1 a1.1.1 ∧ ∀ (b0 : UInt8), W_G_right_0 a1 a0 = W_G_right_1 b0 → ((↑ (UInt8.toNat b0) : Int) = (119 : Int) → (0 ≤ a1.1.2 →
 (a1.1.2 < a1.3 → QYmcP_1 a0.1 a1) ∧ (¬(a1.1.2 < a1.3) → QYmcP_2 a1)) ∧ (¬(0 ≤ a1.1.2) → QYmcP_2 a1)) ∧ (¬((↑ (UInt8.toNat b0) : Int) = (119 : Int)) → ((↑ (UInt8.toNat b0) : Int) =
 (112 : Int) → (0 ≤ a1.1.2 → (a1.1.2 < a1.2 → QYmcP_1 a0.1 a1) ∧ (¬(a1.1.2 < a1.2) → QYmcP_2 a1)) ∧ (¬(0 ≤ a1.1.2) → QYmcP_2 a1)) ∧ (¬((↑ (UInt8.toNat b0) : Int) = (112 : Int)) →
 (-2147483648 ≤ a1.1.2 → (a1.1.2 ≤ 2147483647 → QYmcP_1 a0.1 a1) ∧ (¬(a1.1.2 ≤ 2147483647) → QYmcP_2 a1)) ∧ (¬(-2147483648 ≤ a1.1.2) → QYmcP_2 a1)))
abbrev QYmcP_5 (a0 : KI) (a1 : RtA) : Prop := QYmcP_9 a0.1 a1.1.1 ∧ ∀ (b0 : UInt8), W_G_right_0 a1 a0 = W_G_right_1 b0 → ((↑ (UInt8.toNat b0) : Int) = (119 : Int) → (0 ≤ a1.1.3 →
 (a1.1.3 < a1.3 → QYmcP_1 a0.1 a1) ∧ (¬(a1.1.3 < a1.3) → QYmcP_2 a1)) ∧ (¬(0 ≤ a1.1.3) → QYmcP_2 a1)) ∧ (¬((↑ (UInt8.toNat b0) : Int) = (119 : Int)) → ((↑ (UInt8.toNat b0) : Int) =
 (112 : Int) → (0 ≤ a1.1.3 → (a1.1.3 < a1.2 → QYmcP_1 a0.1 a1) ∧ (¬(a1.1.3 < a1.2) → QYmcP_2 a1)) ∧ (¬(0 ≤ a1.1.3) → QYmcP_2 a1)) ∧ (¬((↑ (UInt8.toNat b0) : Int) = (112 : Int)) →
 (-2147483648 ≤ a1.1.3 → (a1.1.3 ≤ 2147483647 → QYmcP_1 a0.1 a1) ∧ (¬(a1.1.3 ≤ 2147483647) → QYmcP_2 a1)) ∧ (¬(-2147483648 ≤ a1.1.3) → QYmcP_2 a1)))
abbrev QYmcP_6 (a0 : KI) (a1 : RtA) : Prop := QYmcP_9 a0.1 a1.1.1 ∧ ∀ (b0 : UInt8), W_G_right_0 a1 a0 = W_G_right_1 b0 → ((↑ (UInt8.toNat b0) : Int) = (119 : Int) → (0 ≤ a1.1.4 →
 (a1.1.4 < a1.3 → QYmcP_1 a0.1 a1) ∧ (¬(a1.1.4 < a1.3) → QYmcP_2 a1)) ∧ (¬(0 ≤ a1.1.4) → QYmcP_2 a1)) ∧ (¬((↑ (UInt8.toNat b0) : Int) = (119 : Int)) → ((↑ (UInt8.toNat b0) : Int) =
 (112 : Int) → (0 ≤ a1.1.4 → (a1.1.4 < a1.2 → QYmcP_1 a0.1 a1) ∧ (¬(a1.1.4 < a1.2) → QYmcP_2 a1)) ∧ (¬(0 ≤ a1.1.4) → QYmcP_2 a1)) ∧ (¬((↑ (UInt8.toNat b0) : Int) = (112 : Int)) →
 (-2147483648 ≤ a1.1.4 → (a1.1.4 ≤ 2147483647 → QYmcP_1 a0.1 a1) ∧ (¬(a1.1.4 ≤ 2147483647) → QYmcP_2 a1)) ∧ (¬(-2147483648 ≤ a1.1.4) → QYmcP_2 a1)))
abbrev QYmcP_7 (a0 : Int) (a1 : Int) : Prop := a0 = (↑ (List.length (Array.toList (ByteArray.data (ByteArray.mk (Array.mk (hasC a1)))))) : Int)
abbrev QYmcP_11 (a0 : Int) : Prop := ∃ (_ : Unit), True ∧ Array.toList (ByteArray.data (ByteArray.mk (Array.mk (hasC a0)))) = Array.toList (ByteArray.data (ByteArray.mk #[])) ∧
 True
theorem vc_has (a : Ins) : G_has a = ((0 ≤ a.1 → (a.1 < 22 → (0 ≤ a.1 ∧ a.1 < 22) ∧ (∀ (x0 : Nat), x0 = 0 + Int.toNat a.1 * 2 → ∀ (x1 : Nat), x1 = x0 + 1 → ∃ (x2 : List UInt8), Rd cells4 (Nat.add x1 0) (Value.string
(ByteArray.mk (Array.mk x2))) ∧ ∃ (_ : Unit), True ∧ Array.toList (ByteArray.data (ByteArray.mk (Array.mk (hasC a.1)))) = Array.toList (ByteArray.data (ByteArray.mk (Array.mk x2)))
∧ True)) ∧ (¬(a.1 < 22) → QYmcP_11 a.1)) ∧ (¬(0 ≤ a.1) → QYmcP_11 a.1)) := by kernel_rfl
set_option maxHeartbeats 3200000 in
theorem vc_right (a : RtA) : G_right a = ((0 ≤ a.1.1 → (a.1.1 < 22 → (True ∧ 0 ≤ a.1.1 ∧ a.1.1 < 22) ∧ (((a.1.1 = a.1.1 ∧ QYmcP_10 a.1) ∧ True) ∧ ZF cells4 ∧ True) ∧ (∀ (_ : Unit), True → ∃ (x1 : KI), QYmcP_8 x1.1 a ∧
((a.2 = a.2 ∧ a.3 = a.3 ∧ 0 = 0 ∧ QYmcP_12 a.1.1 ∧ QYmcP_10 a.1 ∧ x1.1 = 0 ∧ True) ∧ ((True ∧ a.1.1 = a.1.1 ∧ QYmcP_10 a.1) ∧ ZF cells4 ∧ True) ∧ True) ∧ ∀ (x2 : KI), QYmcP_8 x2.1
a → (x2.1 < 3 → (0 ≤ x2.1 ∧ x2.1 < 3) ∧ (x2.1 = 0 → (a.1.2 = 0 → (∀ (x3 : Int), QYmcP_7 x3 a.1.1 → (x2.1 < x3 → QYmcP_4 x2 a) ∧ (¬(x2.1 < x3) → QYmcP_1 x2.1 a))) ∧ (¬(a.1.2 = 0) →
(∀ (x19 : Int), QYmcP_7 x19 a.1.1 → (x2.1 < x19 → QYmcP_4 x2 a) ∧ (¬(x2.1 < x19) → QYmcP_2 a)))) ∧ (x2.1 = 1 → (a.1.3 = 0 → (∀ (x34 : Int), QYmcP_7 x34 a.1.1 → (x2.1 < x34 →
QYmcP_5 x2 a) ∧ (¬(x2.1 < x34) → QYmcP_1 x2.1 a))) ∧ (¬(a.1.3 = 0) → (∀ (x50 : Int), QYmcP_7 x50 a.1.1 → (x2.1 < x50 → QYmcP_5 x2 a) ∧ (¬(x2.1 < x50) → QYmcP_2 a)))) ∧ (x2.1 = 2 →
(a.1.4 = 0 → (∀ (x65 : Int), QYmcP_7 x65 a.1.1 → (x2.1 < x65 → QYmcP_6 x2 a) ∧ (¬(x2.1 < x65) → QYmcP_1 x2.1 a))) ∧ (¬(a.1.4 = 0) → (∀ (x81 : Int), QYmcP_7 x81 a.1.1 → (x2.1 < x81
→ QYmcP_6 x2 a) ∧ (¬(x2.1 < x81) → QYmcP_2 a)))) ∧ True) ∧ (¬(x2.1 < 3) → (a.1.1 = 0 → (a.1.2 = 0 → QYmcP_3 a) ∧ (¬(a.1.2 = 0) → (a.1.2 = 1 → QYmcP_3 a) ∧ (¬(a.1.2 = 1) → QYmcP_2
a))) ∧ (¬(a.1.1 = 0) → (a.1.1 = 17 → (a.1.3 ≤ a.1.4 → QYmcP_3 a) ∧ (¬(a.1.3 ≤ a.1.4) → QYmcP_2 a)) ∧ (¬(a.1.1 = 17) → (a.1.1 = 18 → (0 ≤ a.1.4 → QYmcP_3 a) ∧ (¬(0 ≤ a.1.4) →
QYmcP_2 a)) ∧ (¬(a.1.1 = 18) → QYmcP_3 a))))) ∧ True) ∧ (¬(a.1.1 < 22) → QYmcP_2 a)) ∧ (¬(0 ≤ a.1.1) → QYmcP_2 a)) := by kernel_rfl
theorem flatAll {l : List Value} (h : l.all ftag = true) : FlatL l := fun v hv => List.all_eq_true.1 h v hv
theorem opsFlat : FlatL cells4 := flatAll (by kernel_rfl)
theorem ops_row {op : Int} (h0 : 0 ≤ op) (h1 : op < 22) : cells4[op.toNat * 2 + 1]? = some (mkStr (hasC op)) := by
  have : op = 0 ∨ op = 1 ∨ op = 2 ∨ op = 3 ∨ op = 4 ∨ op = 5 ∨ op = 6 ∨ op = 7 ∨ op = 8 ∨ op = 9 ∨ op = 10 ∨ op = 11 ∨ op = 12 ∨ op = 13 ∨ op = 14 ∨ op = 15 ∨ op = 16 ∨ op = 17 ∨ op = 18 ∨ op = 19 ∨ op = 20 ∨ op = 21 := by omega
  rcases this with h | h | h | h | h | h | h | h | h | h | h | h | h | h | h | h | h | h | h | h | h | h <;> subst h <;> rfl
theorem g_has (a : Ins) (h0 : 0 ≤ a.op) (h1 : a.op < 22) : G_has a := by
  rw [vc_has]
  delta QYmcP_8 QYmcP_12 QYmcP_10 QYmcP_1 QYmcP_2 QYmcP_3 QYmcP_9 QYmcP_4 QYmcP_5 QYmcP_6 QYmcP_7 QYmcP_11
  refine ⟨fun _ => ⟨fun _ => ⟨⟨h0, h1⟩, fun x0 e0 x1 e1 => ⟨hasC a.op, .inl ?_, (), trivial, ?_⟩⟩, fun h => absurd h1 h⟩, fun h => absurd h0 h⟩
  · have := ops_row h0 h1
    subst e0 e1
    rw [show Nat.add (0 + Int.toNat a.1 * 2 + 1) 0 = Int.toNat a.1 * 2 + 1 by simp]
    exact this
  · exact ⟨rfl, trivial⟩
theorem s_has : SpecOK Tryz.prog S_has.spec := fun a => specD_at (an := []) envOK (cwN_ok (fun _ h => h) 3) fun h => g_has a h.1 h.2
theorem u8_119 {b : UInt8} (h : ((UInt8.toNat b : Nat) : Int) = 119) : b = 119 := by
  apply UInt8.toNat_inj.1; show UInt8.toNat b = 119; omega
theorem u8_112 {b : UInt8} (h : ((UInt8.toNat b : Nat) : Int) = 112) : b = 112 := by
  apply UInt8.toNat_inj.1; show UInt8.toNat b = 112; omega
theorem argP_some {s : List UInt8} {k : Nat} {b : UInt8} (h : s[k]? = some b) (n size words : Int) : argP s k n size words ↔ if b = 119 then 0 ≤ n ∧ n < words else if b = 112 then 0 ≤ n ∧ n < size else -2147483648 ≤ n ∧ n ≤ 2147483647 := by
  have hk : k < s.length := (List.getElem?_eq_some_iff.1 h).1
  have hg : s.getD k 0 = b := by simp [List.getD, h]
  unfold argP
  rw [if_pos hk, hg]
theorem argP_w {s : List UInt8} {k : Nat} {b : UInt8} (h : s[k]? = some b) (hb : ((UInt8.toNat b : Nat) : Int) = 119) {n size words : Int} : argP s k n size words ↔ 0 ≤ n ∧ n < words := by
  rw [argP_some h, if_pos (u8_119 hb)]
theorem argP_p {s : List UInt8} {k : Nat} {b : UInt8} (h : s[k]? = some b) (h1 : ¬ ((UInt8.toNat b : Nat) : Int) = 119) (hb : ((UInt8.toNat b : Nat) : Int) = 112) {n size words : Int} : argP s k n size words ↔ 0 ≤ n ∧ n < size := by
  rw [argP_some h, if_neg (fun e => h1 (by rw [e]; rfl)), if_pos (u8_112 hb)]
theorem argP_n {s : List UInt8} {k : Nat} {b : UInt8} (h : s[k]? = some b) (h1 : ¬ ((UInt8.toNat b : Nat) : Int) = 119) (h2 : ¬ ((UInt8.toNat b : Nat) : Int) = 112) {n size words : Int} : argP s k n size words ↔ -2147483648 ≤ n ∧ n ≤ 2147483647 := by
  rw [argP_some h, if_neg (fun e => h1 (by rw [e]; rfl)), if_neg (fun e => h2 (by rw [e]; rfl))]
theorem argP_z {s : List UInt8} {k : Nat} (h : ¬ k < s.length) {n size words : Int} : argP s k n size words ↔ n = 0 := by unfold argP; rw [if_neg h]
theorem g_right (a : RtA) : G_right a := by
  rw [vc_right]
  delta QYmcP_8 QYmcP_12 QYmcP_10 QYmcP_1 QYmcP_2 QYmcP_3 QYmcP_9 QYmcP_4 QYmcP_5 QYmcP_6 QYmcP_7 QYmcP_11
  refine ⟨fun o0 => ⟨fun o1 => ⟨⟨trivial, o0, o1⟩, ?_, fun _ _ => ⟨⟨0⟩, ⟨⟨by decide, by decide⟩, ⟨o0, o1⟩, fun h => absurd h (by decide), fun h => absurd h (by decide), fun h => absurd h (by decide)⟩, ?_, ?_⟩, trivial⟩, fun h => ⟨(), fun k => h k.1.2, rfl, trivial⟩⟩, fun h => ⟨(), fun k => h k.1.1, rfl, trivial⟩⟩
  · have := opsFlat; repeat' first | with_reducible apply And.intro | exact trivial | exact rfl | assumption
  · have := opsFlat; repeat' first | with_reducible apply And.intro | exact trivial | exact rfl | assumption
  rintro ⟨k⟩ ⟨⟨k0, k3⟩, _, h0, h1, h2⟩
  dsimp only at k0 k3 h0 h1 h2 ⊢
  refine ⟨fun hlt => ⟨⟨k0, hlt⟩, fun hk => ?_, fun hk => ?_, fun hk => ?_, trivial⟩, fun hge => ?_⟩
  · subst hk
    have sz : ∀ {x3 : Int}, x3 = ((hasC a.i.op).length : Int) → ¬ (0 : Int) < x3 → ¬ 0 < (hasC a.i.op).length := fun e h => by omega
    exact ⟨fun hz => fun x3 e3 => ⟨fun hx => ⟨⟨by decide, by rw [← e3]; exact hx⟩, fun x4 e4 => by
        have g : (hasC a.i.op)[0]? = some x4 := e4
        exact ⟨fun c1 => ⟨fun c2 => ⟨fun c3 => (fun x7 e7 => ⟨⟨1⟩, ⟨⟨by decide, by decide⟩, ⟨o0, o1⟩, fun hh => (argP_w g c1).2 ⟨c2, c3⟩, fun hh => absurd hh (by decide), fun hh => absurd hh (by decide)⟩, by decide, ⟨rfl, rfl, rfl, rfl, ⟨rfl, rfl, rfl, trivial⟩, by rw [e7, wrap_sm (by omega)]; rfl, trivial⟩, ⟨⟨trivial, rfl, rfl, rfl, rfl, trivial⟩, ⟨trivial, opsFlat, rfl⟩, trivial⟩, trivial⟩), fun c3 => ⟨(), fun k => c3 ((argP_w g c1).1 k.2.1.1).2, rfl, trivial⟩⟩, fun c2 => ⟨(), fun k => c2 ((argP_w g c1).1 k.2.1.1).1, rfl, trivial⟩⟩,
          fun c1 => ⟨fun c4 => ⟨fun c2 => ⟨fun c3 => (fun x7 e7 => ⟨⟨1⟩, ⟨⟨by decide, by decide⟩, ⟨o0, o1⟩, fun hh => (argP_p g c1 c4).2 ⟨c2, c3⟩, fun hh => absurd hh (by decide), fun hh => absurd hh (by decide)⟩, by decide, ⟨rfl, rfl, rfl, rfl, ⟨rfl, rfl, rfl, trivial⟩, by rw [e7, wrap_sm (by omega)]; rfl, trivial⟩, ⟨⟨trivial, rfl, rfl, rfl, rfl, trivial⟩, ⟨trivial, opsFlat, rfl⟩, trivial⟩, trivial⟩), fun c3 => ⟨(), fun k => c3 ((argP_p g c1 c4).1 k.2.1.1).2, rfl, trivial⟩⟩, fun c2 => ⟨(), fun k => c2 ((argP_p g c1 c4).1 k.2.1.1).1, rfl, trivial⟩⟩,
            fun c4 => ⟨fun c2 => ⟨fun c3 => (fun x7 e7 => ⟨⟨1⟩, ⟨⟨by decide, by decide⟩, ⟨o0, o1⟩, fun hh => (argP_n g c1 c4).2 ⟨c2, c3⟩, fun hh => absurd hh (by decide), fun hh => absurd hh (by decide)⟩, by decide, ⟨rfl, rfl, rfl, rfl, ⟨rfl, rfl, rfl, trivial⟩, by rw [e7, wrap_sm (by omega)]; rfl, trivial⟩, ⟨⟨trivial, rfl, rfl, rfl, rfl, trivial⟩, ⟨trivial, opsFlat, rfl⟩, trivial⟩, trivial⟩), fun c3 => ⟨(), fun k => c3 ((argP_n g c1 c4).1 k.2.1.1).2, rfl, trivial⟩⟩, fun c2 => ⟨(), fun k => c2 ((argP_n g c1 c4).1 k.2.1.1).1, rfl, trivial⟩⟩⟩⟩⟩, fun hx => (fun x7 e7 => ⟨⟨1⟩, ⟨⟨by decide, by decide⟩, ⟨o0, o1⟩, fun hh => (argP_z (sz e3 hx)).2 hz, fun hh => absurd hh (by decide), fun hh => absurd hh (by decide)⟩, by decide, ⟨rfl, rfl, rfl, rfl, ⟨rfl, rfl, rfl, trivial⟩, by rw [e7, wrap_sm (by omega)]; rfl, trivial⟩, ⟨⟨trivial, rfl, rfl, rfl, rfl, trivial⟩, ⟨trivial, opsFlat, rfl⟩, trivial⟩, trivial⟩)⟩,
      fun hz => fun x3 e3 => ⟨fun hx => ⟨⟨by decide, by rw [← e3]; exact hx⟩, fun x4 e4 => by
        have g : (hasC a.i.op)[0]? = some x4 := e4
        exact ⟨fun c1 => ⟨fun c2 => ⟨fun c3 => (fun x7 e7 => ⟨⟨1⟩, ⟨⟨by decide, by decide⟩, ⟨o0, o1⟩, fun hh => (argP_w g c1).2 ⟨c2, c3⟩, fun hh => absurd hh (by decide), fun hh => absurd hh (by decide)⟩, by decide, ⟨rfl, rfl, rfl, rfl, ⟨rfl, rfl, rfl, trivial⟩, by rw [e7, wrap_sm (by omega)]; rfl, trivial⟩, ⟨⟨trivial, rfl, rfl, rfl, rfl, trivial⟩, ⟨trivial, opsFlat, rfl⟩, trivial⟩, trivial⟩), fun c3 => ⟨(), fun k => c3 ((argP_w g c1).1 k.2.1.1).2, rfl, trivial⟩⟩, fun c2 => ⟨(), fun k => c2 ((argP_w g c1).1 k.2.1.1).1, rfl, trivial⟩⟩,
          fun c1 => ⟨fun c4 => ⟨fun c2 => ⟨fun c3 => (fun x7 e7 => ⟨⟨1⟩, ⟨⟨by decide, by decide⟩, ⟨o0, o1⟩, fun hh => (argP_p g c1 c4).2 ⟨c2, c3⟩, fun hh => absurd hh (by decide), fun hh => absurd hh (by decide)⟩, by decide, ⟨rfl, rfl, rfl, rfl, ⟨rfl, rfl, rfl, trivial⟩, by rw [e7, wrap_sm (by omega)]; rfl, trivial⟩, ⟨⟨trivial, rfl, rfl, rfl, rfl, trivial⟩, ⟨trivial, opsFlat, rfl⟩, trivial⟩, trivial⟩), fun c3 => ⟨(), fun k => c3 ((argP_p g c1 c4).1 k.2.1.1).2, rfl, trivial⟩⟩, fun c2 => ⟨(), fun k => c2 ((argP_p g c1 c4).1 k.2.1.1).1, rfl, trivial⟩⟩,
            fun c4 => ⟨fun c2 => ⟨fun c3 => (fun x7 e7 => ⟨⟨1⟩, ⟨⟨by decide, by decide⟩, ⟨o0, o1⟩, fun hh => (argP_n g c1 c4).2 ⟨c2, c3⟩, fun hh => absurd hh (by decide), fun hh => absurd hh (by decide)⟩, by decide, ⟨rfl, rfl, rfl, rfl, ⟨rfl, rfl, rfl, trivial⟩, by rw [e7, wrap_sm (by omega)]; rfl, trivial⟩, ⟨⟨trivial, rfl, rfl, rfl, rfl, trivial⟩, ⟨trivial, opsFlat, rfl⟩, trivial⟩, trivial⟩), fun c3 => ⟨(), fun k => c3 ((argP_n g c1 c4).1 k.2.1.1).2, rfl, trivial⟩⟩, fun c2 => ⟨(), fun k => c2 ((argP_n g c1 c4).1 k.2.1.1).1, rfl, trivial⟩⟩⟩⟩⟩, fun hx => ⟨(), fun k => hz ((argP_z (sz e3 hx)).1 k.2.1.1), rfl, trivial⟩⟩⟩
  · subst hk
    have sz : ∀ {x3 : Int}, x3 = ((hasC a.i.op).length : Int) → ¬ (1 : Int) < x3 → ¬ 1 < (hasC a.i.op).length := fun e h => by omega
    exact ⟨fun hz => fun x3 e3 => ⟨fun hx => ⟨⟨by decide, by rw [← e3]; exact hx⟩, fun x4 e4 => by
        have g : (hasC a.i.op)[1]? = some x4 := e4
        exact ⟨fun c1 => ⟨fun c2 => ⟨fun c3 => (fun x7 e7 => ⟨⟨2⟩, ⟨⟨by decide, by decide⟩, ⟨o0, o1⟩, fun hh => h0 (by omega), fun hh => (argP_w g c1).2 ⟨c2, c3⟩, fun hh => absurd hh (by decide)⟩, by decide, ⟨rfl, rfl, rfl, rfl, ⟨rfl, rfl, rfl, trivial⟩, by rw [e7, wrap_sm (by omega)]; rfl, trivial⟩, ⟨⟨trivial, rfl, rfl, rfl, rfl, trivial⟩, ⟨trivial, opsFlat, rfl⟩, trivial⟩, trivial⟩), fun c3 => ⟨(), fun k => c3 ((argP_w g c1).1 k.2.1.2.1).2, rfl, trivial⟩⟩, fun c2 => ⟨(), fun k => c2 ((argP_w g c1).1 k.2.1.2.1).1, rfl, trivial⟩⟩,
          fun c1 => ⟨fun c4 => ⟨fun c2 => ⟨fun c3 => (fun x7 e7 => ⟨⟨2⟩, ⟨⟨by decide, by decide⟩, ⟨o0, o1⟩, fun hh => h0 (by omega), fun hh => (argP_p g c1 c4).2 ⟨c2, c3⟩, fun hh => absurd hh (by decide)⟩, by decide, ⟨rfl, rfl, rfl, rfl, ⟨rfl, rfl, rfl, trivial⟩, by rw [e7, wrap_sm (by omega)]; rfl, trivial⟩, ⟨⟨trivial, rfl, rfl, rfl, rfl, trivial⟩, ⟨trivial, opsFlat, rfl⟩, trivial⟩, trivial⟩), fun c3 => ⟨(), fun k => c3 ((argP_p g c1 c4).1 k.2.1.2.1).2, rfl, trivial⟩⟩, fun c2 => ⟨(), fun k => c2 ((argP_p g c1 c4).1 k.2.1.2.1).1, rfl, trivial⟩⟩,
            fun c4 => ⟨fun c2 => ⟨fun c3 => (fun x7 e7 => ⟨⟨2⟩, ⟨⟨by decide, by decide⟩, ⟨o0, o1⟩, fun hh => h0 (by omega), fun hh => (argP_n g c1 c4).2 ⟨c2, c3⟩, fun hh => absurd hh (by decide)⟩, by decide, ⟨rfl, rfl, rfl, rfl, ⟨rfl, rfl, rfl, trivial⟩, by rw [e7, wrap_sm (by omega)]; rfl, trivial⟩, ⟨⟨trivial, rfl, rfl, rfl, rfl, trivial⟩, ⟨trivial, opsFlat, rfl⟩, trivial⟩, trivial⟩), fun c3 => ⟨(), fun k => c3 ((argP_n g c1 c4).1 k.2.1.2.1).2, rfl, trivial⟩⟩, fun c2 => ⟨(), fun k => c2 ((argP_n g c1 c4).1 k.2.1.2.1).1, rfl, trivial⟩⟩⟩⟩⟩, fun hx => (fun x7 e7 => ⟨⟨2⟩, ⟨⟨by decide, by decide⟩, ⟨o0, o1⟩, fun hh => h0 (by omega), fun hh => (argP_z (sz e3 hx)).2 hz, fun hh => absurd hh (by decide)⟩, by decide, ⟨rfl, rfl, rfl, rfl, ⟨rfl, rfl, rfl, trivial⟩, by rw [e7, wrap_sm (by omega)]; rfl, trivial⟩, ⟨⟨trivial, rfl, rfl, rfl, rfl, trivial⟩, ⟨trivial, opsFlat, rfl⟩, trivial⟩, trivial⟩)⟩,
      fun hz => fun x3 e3 => ⟨fun hx => ⟨⟨by decide, by rw [← e3]; exact hx⟩, fun x4 e4 => by
        have g : (hasC a.i.op)[1]? = some x4 := e4
        exact ⟨fun c1 => ⟨fun c2 => ⟨fun c3 => (fun x7 e7 => ⟨⟨2⟩, ⟨⟨by decide, by decide⟩, ⟨o0, o1⟩, fun hh => h0 (by omega), fun hh => (argP_w g c1).2 ⟨c2, c3⟩, fun hh => absurd hh (by decide)⟩, by decide, ⟨rfl, rfl, rfl, rfl, ⟨rfl, rfl, rfl, trivial⟩, by rw [e7, wrap_sm (by omega)]; rfl, trivial⟩, ⟨⟨trivial, rfl, rfl, rfl, rfl, trivial⟩, ⟨trivial, opsFlat, rfl⟩, trivial⟩, trivial⟩), fun c3 => ⟨(), fun k => c3 ((argP_w g c1).1 k.2.1.2.1).2, rfl, trivial⟩⟩, fun c2 => ⟨(), fun k => c2 ((argP_w g c1).1 k.2.1.2.1).1, rfl, trivial⟩⟩,
          fun c1 => ⟨fun c4 => ⟨fun c2 => ⟨fun c3 => (fun x7 e7 => ⟨⟨2⟩, ⟨⟨by decide, by decide⟩, ⟨o0, o1⟩, fun hh => h0 (by omega), fun hh => (argP_p g c1 c4).2 ⟨c2, c3⟩, fun hh => absurd hh (by decide)⟩, by decide, ⟨rfl, rfl, rfl, rfl, ⟨rfl, rfl, rfl, trivial⟩, by rw [e7, wrap_sm (by omega)]; rfl, trivial⟩, ⟨⟨trivial, rfl, rfl, rfl, rfl, trivial⟩, ⟨trivial, opsFlat, rfl⟩, trivial⟩, trivial⟩), fun c3 => ⟨(), fun k => c3 ((argP_p g c1 c4).1 k.2.1.2.1).2, rfl, trivial⟩⟩, fun c2 => ⟨(), fun k => c2 ((argP_p g c1 c4).1 k.2.1.2.1).1, rfl, trivial⟩⟩,
            fun c4 => ⟨fun c2 => ⟨fun c3 => (fun x7 e7 => ⟨⟨2⟩, ⟨⟨by decide, by decide⟩, ⟨o0, o1⟩, fun hh => h0 (by omega), fun hh => (argP_n g c1 c4).2 ⟨c2, c3⟩, fun hh => absurd hh (by decide)⟩, by decide, ⟨rfl, rfl, rfl, rfl, ⟨rfl, rfl, rfl, trivial⟩, by rw [e7, wrap_sm (by omega)]; rfl, trivial⟩, ⟨⟨trivial, rfl, rfl, rfl, rfl, trivial⟩, ⟨trivial, opsFlat, rfl⟩, trivial⟩, trivial⟩), fun c3 => ⟨(), fun k => c3 ((argP_n g c1 c4).1 k.2.1.2.1).2, rfl, trivial⟩⟩, fun c2 => ⟨(), fun k => c2 ((argP_n g c1 c4).1 k.2.1.2.1).1, rfl, trivial⟩⟩⟩⟩⟩, fun hx => ⟨(), fun k => hz ((argP_z (sz e3 hx)).1 k.2.1.2.1), rfl, trivial⟩⟩⟩
  · subst hk
    have sz : ∀ {x3 : Int}, x3 = ((hasC a.i.op).length : Int) → ¬ (2 : Int) < x3 → ¬ 2 < (hasC a.i.op).length := fun e h => by omega
    exact ⟨fun hz => fun x3 e3 => ⟨fun hx => ⟨⟨by decide, by rw [← e3]; exact hx⟩, fun x4 e4 => by
        have g : (hasC a.i.op)[2]? = some x4 := e4
        exact ⟨fun c1 => ⟨fun c2 => ⟨fun c3 => (fun x7 e7 => ⟨⟨3⟩, ⟨⟨by decide, by decide⟩, ⟨o0, o1⟩, fun hh => h0 (by omega), fun hh => h1 (by omega), fun hh => (argP_w g c1).2 ⟨c2, c3⟩⟩, by decide, ⟨rfl, rfl, rfl, rfl, ⟨rfl, rfl, rfl, trivial⟩, by rw [e7, wrap_sm (by omega)]; rfl, trivial⟩, ⟨⟨trivial, rfl, rfl, rfl, rfl, trivial⟩, ⟨trivial, opsFlat, rfl⟩, trivial⟩, trivial⟩), fun c3 => ⟨(), fun k => c3 ((argP_w g c1).1 k.2.1.2.2).2, rfl, trivial⟩⟩, fun c2 => ⟨(), fun k => c2 ((argP_w g c1).1 k.2.1.2.2).1, rfl, trivial⟩⟩,
          fun c1 => ⟨fun c4 => ⟨fun c2 => ⟨fun c3 => (fun x7 e7 => ⟨⟨3⟩, ⟨⟨by decide, by decide⟩, ⟨o0, o1⟩, fun hh => h0 (by omega), fun hh => h1 (by omega), fun hh => (argP_p g c1 c4).2 ⟨c2, c3⟩⟩, by decide, ⟨rfl, rfl, rfl, rfl, ⟨rfl, rfl, rfl, trivial⟩, by rw [e7, wrap_sm (by omega)]; rfl, trivial⟩, ⟨⟨trivial, rfl, rfl, rfl, rfl, trivial⟩, ⟨trivial, opsFlat, rfl⟩, trivial⟩, trivial⟩), fun c3 => ⟨(), fun k => c3 ((argP_p g c1 c4).1 k.2.1.2.2).2, rfl, trivial⟩⟩, fun c2 => ⟨(), fun k => c2 ((argP_p g c1 c4).1 k.2.1.2.2).1, rfl, trivial⟩⟩,
            fun c4 => ⟨fun c2 => ⟨fun c3 => (fun x7 e7 => ⟨⟨3⟩, ⟨⟨by decide, by decide⟩, ⟨o0, o1⟩, fun hh => h0 (by omega), fun hh => h1 (by omega), fun hh => (argP_n g c1 c4).2 ⟨c2, c3⟩⟩, by decide, ⟨rfl, rfl, rfl, rfl, ⟨rfl, rfl, rfl, trivial⟩, by rw [e7, wrap_sm (by omega)]; rfl, trivial⟩, ⟨⟨trivial, rfl, rfl, rfl, rfl, trivial⟩, ⟨trivial, opsFlat, rfl⟩, trivial⟩, trivial⟩), fun c3 => ⟨(), fun k => c3 ((argP_n g c1 c4).1 k.2.1.2.2).2, rfl, trivial⟩⟩, fun c2 => ⟨(), fun k => c2 ((argP_n g c1 c4).1 k.2.1.2.2).1, rfl, trivial⟩⟩⟩⟩⟩, fun hx => (fun x7 e7 => ⟨⟨3⟩, ⟨⟨by decide, by decide⟩, ⟨o0, o1⟩, fun hh => h0 (by omega), fun hh => h1 (by omega), fun hh => (argP_z (sz e3 hx)).2 hz⟩, by decide, ⟨rfl, rfl, rfl, rfl, ⟨rfl, rfl, rfl, trivial⟩, by rw [e7, wrap_sm (by omega)]; rfl, trivial⟩, ⟨⟨trivial, rfl, rfl, rfl, rfl, trivial⟩, ⟨trivial, opsFlat, rfl⟩, trivial⟩, trivial⟩)⟩,
      fun hz => fun x3 e3 => ⟨fun hx => ⟨⟨by decide, by rw [← e3]; exact hx⟩, fun x4 e4 => by
        have g : (hasC a.i.op)[2]? = some x4 := e4
        exact ⟨fun c1 => ⟨fun c2 => ⟨fun c3 => (fun x7 e7 => ⟨⟨3⟩, ⟨⟨by decide, by decide⟩, ⟨o0, o1⟩, fun hh => h0 (by omega), fun hh => h1 (by omega), fun hh => (argP_w g c1).2 ⟨c2, c3⟩⟩, by decide, ⟨rfl, rfl, rfl, rfl, ⟨rfl, rfl, rfl, trivial⟩, by rw [e7, wrap_sm (by omega)]; rfl, trivial⟩, ⟨⟨trivial, rfl, rfl, rfl, rfl, trivial⟩, ⟨trivial, opsFlat, rfl⟩, trivial⟩, trivial⟩), fun c3 => ⟨(), fun k => c3 ((argP_w g c1).1 k.2.1.2.2).2, rfl, trivial⟩⟩, fun c2 => ⟨(), fun k => c2 ((argP_w g c1).1 k.2.1.2.2).1, rfl, trivial⟩⟩,
          fun c1 => ⟨fun c4 => ⟨fun c2 => ⟨fun c3 => (fun x7 e7 => ⟨⟨3⟩, ⟨⟨by decide, by decide⟩, ⟨o0, o1⟩, fun hh => h0 (by omega), fun hh => h1 (by omega), fun hh => (argP_p g c1 c4).2 ⟨c2, c3⟩⟩, by decide, ⟨rfl, rfl, rfl, rfl, ⟨rfl, rfl, rfl, trivial⟩, by rw [e7, wrap_sm (by omega)]; rfl, trivial⟩, ⟨⟨trivial, rfl, rfl, rfl, rfl, trivial⟩, ⟨trivial, opsFlat, rfl⟩, trivial⟩, trivial⟩), fun c3 => ⟨(), fun k => c3 ((argP_p g c1 c4).1 k.2.1.2.2).2, rfl, trivial⟩⟩, fun c2 => ⟨(), fun k => c2 ((argP_p g c1 c4).1 k.2.1.2.2).1, rfl, trivial⟩⟩,
            fun c4 => ⟨fun c2 => ⟨fun c3 => (fun x7 e7 => ⟨⟨3⟩, ⟨⟨by decide, by decide⟩, ⟨o0, o1⟩, fun hh => h0 (by omega), fun hh => h1 (by omega), fun hh => (argP_n g c1 c4).2 ⟨c2, c3⟩⟩, by decide, ⟨rfl, rfl, rfl, rfl, ⟨rfl, rfl, rfl, trivial⟩, by rw [e7, wrap_sm (by omega)]; rfl, trivial⟩, ⟨⟨trivial, rfl, rfl, rfl, rfl, trivial⟩, ⟨trivial, opsFlat, rfl⟩, trivial⟩, trivial⟩), fun c3 => ⟨(), fun k => c3 ((argP_n g c1 c4).1 k.2.1.2.2).2, rfl, trivial⟩⟩, fun c2 => ⟨(), fun k => c2 ((argP_n g c1 c4).1 k.2.1.2.2).1, rfl, trivial⟩⟩⟩⟩⟩, fun hx => ⟨(), fun k => hz ((argP_z (sz e3 hx)).1 k.2.1.2.2), rfl, trivial⟩⟩⟩
  · have g0 := h0 (by omega)
    have g1 := h1 (by omega)
    have g2 := h2 (by omega)
    refine ⟨fun c0 => ⟨fun c1 => ⟨(), ⟨⟨o0, o1⟩, ⟨g0, g1, g2⟩, fun _ => .inl c1, fun h => absurd (c0.symm.trans h) (by decide), fun h => absurd (c0.symm.trans h) (by decide)⟩, rfl, trivial⟩,
      fun c1 => ⟨fun c2 => ⟨(), ⟨⟨o0, o1⟩, ⟨g0, g1, g2⟩, fun _ => .inr c2, fun h => absurd (c0.symm.trans h) (by decide), fun h => absurd (c0.symm.trans h) (by decide)⟩, rfl, trivial⟩,
        fun c2 => ⟨(), fun k => (k.2.2.1 c0).elim c1 c2, rfl, trivial⟩⟩⟩,
      fun c0 => ⟨fun c1 => ⟨fun c2 => ⟨(), ⟨⟨o0, o1⟩, ⟨g0, g1, g2⟩, fun h => absurd h c0, fun _ => c2, fun h => absurd (c1.symm.trans h) (by decide)⟩, rfl, trivial⟩, fun c2 => ⟨(), fun k => c2 (k.2.2.2.1 c1), rfl, trivial⟩⟩,
        fun c1 => ⟨fun c2 => ⟨fun c3 => ⟨(), ⟨⟨o0, o1⟩, ⟨g0, g1, g2⟩, fun h => absurd h c0, fun h => absurd h c1, fun _ => c3⟩, rfl, trivial⟩, fun c3 => ⟨(), fun k => c3 (k.2.2.2.2 c2), rfl, trivial⟩⟩,
          fun c2 => ⟨(), ⟨⟨o0, o1⟩, ⟨g0, g1, g2⟩, fun h => absurd h c0, fun h => absurd h c1, fun h => absurd h c2⟩, rfl, trivial⟩⟩⟩⟩
theorem s_right : SpecOK Tryz.prog S_right.spec := fun a => specD_at (an := [some (la_right a)]) envOK (cwN_ok (fun _ h => cwD_ok s_has h) 4) fun _ => g_right a
end Go.Proofs.YtdjnipabfbblnaaGreatDoor
end

/- The machine: a step (what is to be shown). -/
section
set_option maxRecDepth 100000
namespace Go.Proofs.YtdjnipabfbblnaaGreatDoor
open Go.Ev
-- keep num foldI dnum frm Go.Ev.Sli Go.Ev.HV insAt argP rightP hasC farC stepC okAt twoC truthC W32 runC storeC cells4
structure FaA where
  t : StA
  i : Ins
set_option linter.unusedSectionVars false
variable [Go.Ev.Frozen Tryz.prog]
noncomputable section
abbrev stR (a : StA) (i : Nat) : List (Nat × PO) := [(i, .p (.row [tgI .i64 a.pc, tgS (i + 1) 0 a.l a.k, tgI .i64 a.halt] 156 .own)), (i + 1, .f a.c 21 (.grown a.k))]
def stK {β : Type} (A : AW) (i : Nat) (v : Value) (k : Int → Int → SA → List (Nat × Nat) → Option β) : Option β := ptK v fun b => rowK A b fun r => wI (lv r 0) fun p => wI (lv r 2) fun h => saK A (i + 1) (lv r 1) fun s q => k p h s ((i, b) :: q)
abbrev codR (s : SA) (i : Nat) : Nat × PO := (i, .f s.c 307 .gro)
def twosE : List MapEntry := [⟨.int .i64 3, .func (.func 201) #[] #[], 0⟩, ⟨.int .i64 4, .func (.func 202) #[] #[], 1⟩, ⟨.int .i64 5, .func (.func 203) #[] #[], 2⟩, ⟨.int .i64 6, .func (.func 204) #[] #[], 3⟩,
  ⟨.int .i64 7, .func (.func 205) #[] #[], 4⟩, ⟨.int .i64 8, .func (.func 206) #[] #[], 5⟩, ⟨.int .i64 9, .func (.func 208) #[] #[], 6⟩, ⟨.int .i64 10, .func (.func 209) #[] #[], 7⟩,
  ⟨.int .i64 11, .func (.func 210) #[] #[], 8⟩, ⟨.int .i64 12, .func (.func 211) #[] #[], 9⟩, ⟨.int .i64 13, .func (.func 212) #[] #[], 10⟩]
def mpK {β : Type} (v : Value) (k : Nat → Option β) : Option β := match v with
  | .map (some b) => k b
  | _ => k 0
def S_far : SpecD where
  f := 214
  α := FaA
  args a := [.pointer (some ⟨13, 0, none⟩), a.i.v]
  R a := stR a.t 13
  n := 13 + 2
  pre a := (∃ xs, HE .i32 a.t.c xs ∧ xs.length = a.t.l ∧ W32 xs) ∧ a.t.l ≤ 256 ∧ (a.i.op = 15 → 0 ≤ a.i.c ∧ a.i.c < a.t.l) ∧ (a.i.op = 16 → 0 ≤ a.i.b ∧ a.i.b < a.t.l)
  outs := [⟨KI, fun a b => ∀ xs, HE .i32 a.t.c xs → xs.length = a.t.l → b.k = farC a.i xs, fun _ b => tgI .i64 b.k, fun a _ => stR a.t 13, fun _ _ => 13 + 2, fun _ _ => []⟩]
  pick _ _ := 0
  find l A := stK A 13 (lv l 0) fun p h s q => insK (agv (lv l 1)) fun i => some (⟨⟨p, h, s.l, s.k, s.c, ⟨true, 0, 0, 0, []⟩⟩, i⟩, q)
def G_far (a : FaA) (xs : List Int) : Prop := fnW Tryz.prog E0 cw0 [] S_far.f (S_far.args a) (mem (S_far.R a) S_far.n) (endD Tryz.prog S_far a)
abbrev stepR (a : StA) : List (Nat × PO) := stR a 13 ++ (codR a.s (13 + 2) :: (13 + 3, .p (.map twosE 11)) :: globM)
abbrev stP (a : StA) : Prop := (∃ xs, HE .i32 a.c xs ∧ xs.length = a.l ∧ W32 xs) ∧ (1 ≤ a.l ∧ a.l ≤ 256) ∧ (∃ cs, Sli (Value.int .i64) 4 a.s.n a.s.o a.s.l a.s.k a.s.c cs) ∧ (0 ≤ a.pc ∧ a.pc ≤ 2048)
def S_step : SpecD where
  f := 138
  α := StA
  args a := [.pointer (some ⟨13, 0, none⟩), a.s.v (13 + 2), .map (some (13 + 3))]
  R a := stepR a
  n := 13 + 4
  pre a := stP a
  outs := [⟨StO, fun a b => ∀ xs cs, HE .i32 a.c xs → xs.length = a.l → W32 xs → Sli (Value.int .i64) 4 a.s.n a.s.o a.s.l a.s.k a.s.c cs →
    HE .i32 b.c (stepC cs ⟨a.pc, xs, a.halt⟩).mem ∧ b.pc = (stepC cs ⟨a.pc, xs, a.halt⟩).pc ∧ b.halt = (stepC cs ⟨a.pc, xs, a.halt⟩).halt, fun _ _ => .tuple ⟨[]⟩, fun a b => stepR ⟨b.pc, b.halt, a.l, a.k, b.c, a.s⟩, fun _ _ => 13 + 4, fun _ _ => []⟩]
  pick _ _ := 0
  find l A := stK A 13 (lv l 0) fun p h s q => saK A (13 + 2) (lv l 1) fun c r => mpK (lv l 2) fun m => some (⟨p, h, s.l, s.k, s.c, c⟩, (13 + 3, m) :: (q ++ r))
def G_step (a : StA) (xs cs : List Int) : Prop := fnW Tryz.prog E0 (cwN (fun c => cwD Tryz.prog S_right (cwD Tryz.prog S_far c)) 3) [] S_step.f (S_step.args a) (mem (S_step.R a) S_step.n) (endD Tryz.prog S_step a)
end
end Go.Proofs.YtdjnipabfbblnaaGreatDoor
end
