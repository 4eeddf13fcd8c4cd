/- Whether positions are the same: what is told of slices.Equal, of game.Same, of a position's digest is so. -/
import Derived.Test.YtdjnipabfbblnaaGreatDoorYmvP
import Derived.Test.YtdjnipabfbblnaaGreatDoorYmo
section
set_option maxRecDepth 100000
namespace Go.Proofs.YtdjnipabfbblnaaGreatDoor
open Go.Ev
set_option linter.unusedSectionVars false
variable [Go.Ev.Frozen Tryz.prog]
abbrev QYeqP_1 (a0 : SA) (a1 : List Int) : Prop := Sli (Value.int IntKind.i32) 1 a0.1 a0.2 a0.3 a0.4 a0.5 a1
abbrev QYeqP_2 (a0 : SA) (a1 : List Int) : Prop := Sli (Value.int IntKind.u8) 8 a0.1 a0.2 a0.3 a0.4 a0.5 a1
abbrev QYeqP_3 (a0 : P2G) : Prop := ∃ (b0 : BL), (∀ (b1 b2 : PX), PH a0.1 b1 → PH a0.2 b2 → (b0.1 = true ↔ b1 = b2 ∧ RollsEq a0.1 a0.2)) ∧ b0.1 = false ∧ True
abbrev QYeqP_4 : Prop := True ∧ True ∧ True ∧ True ∧ True ∧ True ∧ True ∧ True ∧ True ∧ True
abbrev QYeqP_5 (a0 : S2) (a1 : Int) (a2 : Int) (a3 : Int) : Prop := Int.toNat ((↑a0.1.3 : Int) - a1) < Int.toNat ((↑a0.1.3 : Int) - a2) ∧ (Z4 a0.1 ∧ Z4 a0.2 ∧ (↑a0.1.3 : Int) =
 (↑a0.1.3 : Int) ∧ a1 = a3 ∧ True) ∧ (ZF a0.1.5 ∧ ZF a0.2.5 ∧ True) ∧ True
abbrev QYeqP_6 (a0 : S2) : Prop := ∃ (_ : Unit), (∀ (b1 b2 : List Bool), Sli Value.bool 1 a0.1.1 a0.1.2 a0.1.3 a0.1.4 a0.1.5 b1 → Sli Value.bool 1 a0.2.1 a0.2.2 a0.2.3 a0.2.4
 a0.2.5 b2 → b1 ≠ b2) ∧ false = false ∧ True
abbrev QYeqP_7 (a0 : S2) (a1 : Int) (a2 : Int) : Prop := (Z4 a0.1 ∧ Z4 a0.2 ∧ (↑a0.1.3 : Int) = a1 ∧ a2 = 0 ∧ True) ∧ (ZF a0.1.5 ∧ ZF a0.2.5 ∧ True) ∧ True
abbrev QYeqP_8 (a0 : Int) (a1 : Nat) (a2 : List Int) (a3 : List Int) : Prop := (0 ≤ a0 ∧ a0 ≤ (↑a1 : Int)) ∧ List.take (1 * Int.toNat a0) a2 = List.take (1 * Int.toNat a0) a3
abbrev QYeqP_9 (a0 : Int) (a1 : Nat) (a2 : List Bool) (a3 : List Bool) : Prop := (0 ≤ a0 ∧ a0 ≤ (↑a1 : Int)) ∧ List.take (1 * Int.toNat a0) a2 = List.take (1 * Int.toNat a0) a3
abbrev QYeqP_10 (a0 : Int) (a1 : Nat) (a2 : List Int) (a3 : List Int) : Prop := (0 ≤ a0 ∧ a0 ≤ (↑a1 : Int)) ∧ List.take (8 * Int.toNat a0) a2 = List.take (8 * Int.toNat a0) a3
theorem vc_eqi32 (a : S2) (xs ys : List Int) : G_eqi32 a xs ys = (∀ (x0 : Int), x0 = (↑a.1.3 : Int) → ∀ (x1 : Int), x1 = (↑a.2.3 : Int) → (x0 ≠ x1 → (∃ (_ : Unit), (∀ (x3 x4 : List Int), QYeqP_1 a.1 x3 → QYeqP_1 a.2 x4 → x3 ≠ x4) ∧ false = false
∧ True)) ∧ (¬(x0 ≠ x1) → ∀ (x5 : Int), x5 = (↑a.1.3 : Int) → ∃ (x6 : IL), QYeqP_8 x6.1 a.1.3 xs ys ∧ QYeqP_7 a x5 x6.1 ∧ ∀ (x7 : IL), QYeqP_8 x7.1 a.1.3 xs ys → (x7.1 < (↑a.1.3 :
Int) → (0 ≤ x7.1 ∧ x7.1 < (↑a.1.3 : Int)) ∧ (∀ (x8 : Nat), x8 = a.1.2 + Int.toNat x7.1 * 1 → ∃ (x9 : Int), Rd a.1.5 (Nat.add x8 0) (Value.int IntKind.i32 x9) ∧ (0 ≤ x7.1 ∧ x7.1 <
(↑a.2.3 : Int)) ∧ ∀ (x10 : Nat), x10 = a.2.2 + Int.toNat x7.1 * 1 → ∃ (x11 : Int), Rd a.2.5 (Nat.add x10 0) (Value.int IntKind.i32 x11) ∧ (x9 ≠ x11 → QYeqP_4 ∧ (∃ (_ : Unit), (∀
(x13 x14 : List Int), QYeqP_1 a.1 x13 → QYeqP_1 a.2 x14 → x13 ≠ x14) ∧ false = false ∧ True)) ∧ (¬(x9 ≠ x11) → QYeqP_4 ∧ ∀ (x15 : Int), x15 = IntKind.wrap .i64 (x7.1 + (1 : Int)) →
∃ (x16 : IL), QYeqP_8 x16.1 a.1.3 xs ys ∧ QYeqP_5 a x16.1 x7.1 x15))) ∧ (¬(x7.1 < (↑a.1.3 : Int)) → ∃ (_ : Unit), (∀ (x18 x19 : List Int), QYeqP_1 a.1 x18 → QYeqP_1 a.2 x19 → x18 =
x19) ∧ true = true ∧ True))) := by kernel_rfl
theorem vc_eqbool (a : S2) (xs ys : List Bool) : G_eqbool a xs ys = (∀ (x0 : Int), x0 = (↑a.1.3 : Int) → ∀ (x1 : Int), x1 = (↑a.2.3 : Int) → (x0 ≠ x1 → QYeqP_6 a) ∧ (¬(x0 ≠ x1) → ∀ (x5 : Int), x5 = (↑a.1.3 : Int) → ∃ (x6 : IL), QYeqP_9 x6.1 a.1.3
xs ys ∧ QYeqP_7 a x5 x6.1 ∧ ∀ (x7 : IL), QYeqP_9 x7.1 a.1.3 xs ys → (x7.1 < (↑a.1.3 : Int) → (0 ≤ x7.1 ∧ x7.1 < (↑a.1.3 : Int)) ∧ (∀ (x8 : Nat), x8 = a.1.2 + Int.toNat x7.1 * 1 → ∃
(x9 : Bool), Rd a.1.5 (Nat.add x8 0) (Value.bool x9) ∧ (0 ≤ x7.1 ∧ x7.1 < (↑a.2.3 : Int)) ∧ ∀ (x10 : Nat), x10 = a.2.2 + Int.toNat x7.1 * 1 → ∃ (x11 : Bool), Rd a.2.5 (Nat.add x10
0) (Value.bool x11) ∧ (x9 ≠ x11 → QYeqP_4 ∧ QYeqP_6 a) ∧ (¬(x9 ≠ x11) → QYeqP_4 ∧ ∀ (x15 : Int), x15 = IntKind.wrap .i64 (x7.1 + (1 : Int)) → ∃ (x16 : IL), QYeqP_9 x16.1 a.1.3 xs
ys ∧ QYeqP_5 a x16.1 x7.1 x15))) ∧ (¬(x7.1 < (↑a.1.3 : Int)) → ∃ (_ : Unit), (∀ (x18 x19 : List Bool), Sli Value.bool 1 a.1.1 a.1.2 a.1.3 a.1.4 a.1.5 x18 → Sli Value.bool 1 a.2.1
a.2.2 a.2.3 a.2.4 a.2.5 x19 → x18 = x19) ∧ true = true ∧ True))) := by kernel_rfl
theorem vc_eqdig (a : S2) (xs ys : List Int) : G_eqdig a xs ys = (∀ (x0 : Int), x0 = (↑a.1.3 : Int) → ∀ (x1 : Int), x1 = (↑a.2.3 : Int) → (x0 ≠ x1 → (∃ (_ : Unit), (∀ (x3 x4 : List Int), QYeqP_2 a.1 x3 → QYeqP_2 a.2 x4 → x3 ≠ x4) ∧ false = false
∧ True)) ∧ (¬(x0 ≠ x1) → ∀ (x5 : Int), x5 = (↑a.1.3 : Int) → ∃ (x6 : IL), QYeqP_10 x6.1 a.1.3 xs ys ∧ QYeqP_7 a x5 x6.1 ∧ ∀ (x7 : IL), QYeqP_10 x7.1 a.1.3 xs ys → (x7.1 < (↑a.1.3 :
Int) → (0 ≤ x7.1 ∧ x7.1 < (↑a.1.3 : Int)) ∧ (∀ (x8 : Nat), x8 = a.1.2 + Int.toNat x7.1 * 8 → ∃ (x9 : Int), Rd a.1.5 (Nat.add x8 0) (Value.int IntKind.u8 x9) ∧ ∃ (x10 : Int), Rd
a.1.5 (Nat.add x8 1) (Value.int IntKind.u8 x10) ∧ ∃ (x11 : Int), Rd a.1.5 (Nat.add x8 2) (Value.int IntKind.u8 x11) ∧ ∃ (x12 : Int), Rd a.1.5 (Nat.add x8 3) (Value.int IntKind.u8
x12) ∧ ∃ (x13 : Int), Rd a.1.5 (Nat.add x8 4) (Value.int IntKind.u8 x13) ∧ ∃ (x14 : Int), Rd a.1.5 (Nat.add x8 5) (Value.int IntKind.u8 x14) ∧ ∃ (x15 : Int), Rd a.1.5 (Nat.add x8
6) (Value.int IntKind.u8 x15) ∧ ∃ (x16 : Int), Rd a.1.5 (Nat.add x8 7) (Value.int IntKind.u8 x16) ∧ (0 ≤ x7.1 ∧ x7.1 < (↑a.2.3 : Int)) ∧ ∀ (x17 : Nat), x17 = a.2.2 + Int.toNat x7.1
* 8 → ∃ (x18 : Int), Rd a.2.5 (Nat.add x17 0) (Value.int IntKind.u8 x18) ∧ ∃ (x19 : Int), Rd a.2.5 (Nat.add x17 1) (Value.int IntKind.u8 x19) ∧ ∃ (x20 : Int), Rd a.2.5 (Nat.add x17
2) (Value.int IntKind.u8 x20) ∧ ∃ (x21 : Int), Rd a.2.5 (Nat.add x17 3) (Value.int IntKind.u8 x21) ∧ ∃ (x22 : Int), Rd a.2.5 (Nat.add x17 4) (Value.int IntKind.u8 x22) ∧ ∃ (x23 :
Int), Rd a.2.5 (Nat.add x17 5) (Value.int IntKind.u8 x23) ∧ ∃ (x24 : Int), Rd a.2.5 (Nat.add x17 6) (Value.int IntKind.u8 x24) ∧ ∃ (x25 : Int), Rd a.2.5 (Nat.add x17 7) (Value.int
IntKind.u8 x25) ∧ (¬(x9 = x18 ∧ x10 = x19 ∧ x11 = x20 ∧ x12 = x21 ∧ x13 = x22 ∧ x14 = x23 ∧ x15 = x24 ∧ x16 = x25 ∧ True) → QYeqP_4 ∧ (∃ (_ : Unit), (∀ (x27 x28 : List Int),
QYeqP_2 a.1 x27 → QYeqP_2 a.2 x28 → x27 ≠ x28) ∧ false = false ∧ True)) ∧ (x9 = x18 ∧ x10 = x19 ∧ x11 = x20 ∧ x12 = x21 ∧ x13 = x22 ∧ x14 = x23 ∧ x15 = x24 ∧ x16 = x25 ∧ True →
QYeqP_4 ∧ ∀ (x29 : Int), x29 = IntKind.wrap .i64 (x7.1 + (1 : Int)) → ∃ (x30 : IL), QYeqP_10 x30.1 a.1.3 xs ys ∧ QYeqP_5 a x30.1 x7.1 x29))) ∧ (¬(x7.1 < (↑a.1.3 : Int)) → ∃ (_ :
Unit), (∀ (x32 x33 : List Int), QYeqP_2 a.1 x32 → QYeqP_2 a.2 x33 → x32 = x33) ∧ true = true ∧ True))) := by kernel_rfl
theorem vc_gsame (a : P2G) : G_gsame a = ((True ∧ (∃ (x0 x1 : List Int), QYeqP_1 a.1.1 x0 ∧ QYeqP_1 a.2.1 x1) ∧ a.1.1.3 ≤ 1000000 ∧ a.2.1.3 ≤ 1000000) ∧ ((Z4 a.1.1 ∧ Z4 a.2.1 ∧ True) ∧ ZF a.1.1.5 ∧ ZF a.2.1.5 ∧ True) ∧ (∀
(_ : Unit), (∀ (x3 x4 : List Int), QYeqP_1 a.1.1 x3 → QYeqP_1 a.2.1 x4 → x3 = x4) → (True ∧ (∃ (x5 x6 : List Bool), Sli Value.bool 1 a.1.2.1 a.1.2.2 a.1.2.3 a.1.2.4 a.1.2.5 x5 ∧
Sli Value.bool 1 a.2.2.1 a.2.2.2 a.2.2.3 a.2.2.4 a.2.2.5 x6) ∧ a.1.2.3 ≤ 1000000 ∧ a.2.2.3 ≤ 1000000) ∧ ((Z4 a.1.2 ∧ Z4 a.2.2 ∧ True) ∧ ZF a.1.2.5 ∧ ZF a.2.2.5 ∧ True) ∧ (∀ (_ :
Unit), (∀ (x8 x9 : List Bool), Sli Value.bool 1 a.1.2.1 a.1.2.2 a.1.2.3 a.1.2.4 a.1.2.5 x8 → Sli Value.bool 1 a.2.2.1 a.2.2.2 a.2.2.3 a.2.2.4 a.2.2.5 x9 → x8 = x9) → (True ∧ (∃
(x10 x11 : List Int), QYeqP_2 a.1.3 x10 ∧ QYeqP_2 a.2.3 x11) ∧ a.1.3.3 ≤ 1000000 ∧ a.2.3.3 ≤ 1000000) ∧ ((Z4 a.1.3 ∧ Z4 a.2.3 ∧ True) ∧ ZF a.1.3.5 ∧ ZF a.2.3.5 ∧ True) ∧ (∀ (_ :
Unit), (∀ (x13 x14 : List Int), QYeqP_2 a.1.3 x13 → QYeqP_2 a.2.3 x14 → x13 = x14) → (a.1.4 = a.2.4 ∧ a.1.5 = a.2.5 ∧ a.1.6 = a.2.6 ∧ a.1.7 = a.2.7 ∧ a.1.8 = a.2.8 ∧ True → (∃ (x15
: BL), (∀ (x16 x17 : PX), PH a.1 x16 → PH a.2 x17 → (x15.1 = true ↔ x16 = x17 ∧ RollsEq a.1 a.2)) ∧ x15.1 = true ∧ True)) ∧ (¬(a.1.4 = a.2.4 ∧ a.1.5 = a.2.5 ∧ a.1.6 = a.2.6 ∧ a.1.7
= a.2.7 ∧ a.1.8 = a.2.8 ∧ True) → QYeqP_3 a)) ∧ (∀ (_ : Unit), (∀ (x22 x23 : List Int), QYeqP_2 a.1.3 x22 → QYeqP_2 a.2.3 x23 → x22 ≠ x23) → QYeqP_3 a) ∧ True) ∧ (∀ (_ : Unit), (∀
(x28 x29 : List Bool), Sli Value.bool 1 a.1.2.1 a.1.2.2 a.1.2.3 a.1.2.4 a.1.2.5 x28 → Sli Value.bool 1 a.2.2.1 a.2.2.2 a.2.2.3 a.2.2.4 a.2.2.5 x29 → x28 ≠ x29) → QYeqP_3 a) ∧ True)
∧ (∀ (_ : Unit), (∀ (x34 x35 : List Int), QYeqP_1 a.1.1 x34 → QYeqP_1 a.2.1 x35 → x34 ≠ x35) → QYeqP_3 a) ∧ True) := by kernel_rfl
theorem take_succ_eqG {α : Type} {xs ys : List α} {i : Nat} (h : xs.take i = ys.take i) (h1 : i < xs.length) (h2 : i < ys.length) (he : xs[i] = ys[i]) : xs.take (i + 1) = ys.take (i + 1) := by
  rw [List.take_succ_eq_append_getElem h1, List.take_succ_eq_append_getElem h2, h, he]
theorem g_eqi32 (a : S2) (xs ys : List Int) (hx : Sli (Value.int .i32) 1 a.a.n a.a.o a.a.l a.a.k a.a.c xs) (hy : Sli (Value.int .i32) 1 a.b.n a.b.o a.b.l a.b.k a.b.c ys) (b1 : a.a.l ≤ 1000000) (b2 : a.b.l ≤ 1000000) : G_eqi32 a xs ys := by
  have lx := hx.len
  have ly := hy.len
  have fx := hx.flat
  have fy := hy.flat
  rw [vc_eqi32]
  intro x0 e0 x1 e1
  refine ⟨fun hne => ⟨(), fun u v hu hv h => ?_, rfl, trivial⟩, fun heq x5 e5 => ?_⟩
  · have := hu.len; have := hv.len; subst h; omega
  have e01 : a.a.l = a.b.l := by omega
  refine ⟨⟨0⟩, ⟨⟨by decide, by simp⟩, by simp⟩, ?_, ?_⟩
  · have e5 := e5.symm
    repeat' first | with_reducible apply And.intro | exact trivial | exact rfl | assumption
  rintro ⟨i⟩ ⟨⟨hi0, hi1⟩, ht⟩
  dsimp only at hi0 hi1 ht ⊢
  rw [Nat.one_mul] at ht
  refine ⟨fun hlt => ?_, fun hge => ?_⟩
  · have h1 : i.toNat < xs.length := by omega
    have h2 : i.toNat < ys.length := by omega
    refine ⟨⟨hi0, by omega⟩, fun p hp => ⟨xs[i.toNat], by rw [hp, Nat.mul_one]; exact hx.at_.get h1, ⟨hi0, by omega⟩, fun q hq => ⟨ys[i.toNat], by rw [hq, Nat.mul_one]; exact hy.at_.get h2, fun hne => ⟨?_, (), fun u v hu hv h => ?_, rfl, trivial⟩, fun hee => ⟨?_, fun z hz => ?_⟩⟩⟩⟩
    · repeat' first | with_reducible apply And.intro | exact trivial | exact rfl | assumption
    · exfalso
      have e1 := Sli.uniqI hu hx
      have e2 := Sli.uniqI hv hy
      subst e1 e2
      apply hne
      subst h
      rfl
    · repeat' first | with_reducible apply And.intro | exact trivial | exact rfl | assumption
    · rw [wrap_i64] at hz
      have hz' : z.toNat = i.toNat + 1 := by omega
      refine ⟨⟨z⟩, ⟨⟨by show 0 ≤ z; omega, by show z ≤ _; omega⟩, by (show xs.take (1 * z.toNat) = ys.take (1 * z.toNat)); rw [Nat.one_mul, hz']; exact take_succ_eqG ht h1 h2 (Classical.byContradiction hee)⟩, by show ((a.a.l : Int) - z).toNat < ((a.a.l : Int) - i).toNat; omega, ?_⟩
      repeat' first | with_reducible apply And.intro | exact trivial | exact rfl | assumption
  · refine ⟨(), fun u v hu hv => ?_, rfl, trivial⟩
    have e1 := Sli.uniqI hu hx
    have e2 := Sli.uniqI hv hy
    subst e1 e2
    rw [List.take_of_length_le (by omega), List.take_of_length_le (by omega)] at ht
    exact ht
theorem s_eqi32 : SpecOK Tryz.prog S_eqi32.spec := fun a K hp hq => by
  obtain ⟨⟨xs, ys, hx, hy⟩, b1, b2⟩ := hp
  exact specD_at (an := [some (la_eqi32 a xs ys)]) envOK cw0_ok (fun _ => g_eqi32 a xs ys hx hy b1 b2) K ⟨⟨xs, ys, hx, hy⟩, b1, b2⟩ hq
theorem g_eqbool (a : S2) (xs ys : List Bool) (hx : Sli (Value.bool) 1 a.a.n a.a.o a.a.l a.a.k a.a.c xs) (hy : Sli (Value.bool) 1 a.b.n a.b.o a.b.l a.b.k a.b.c ys) (b1 : a.a.l ≤ 1000000) (b2 : a.b.l ≤ 1000000) : G_eqbool a xs ys := by
  have lx := hx.len
  have ly := hy.len
  have fx := hx.flat
  have fy := hy.flat
  rw [vc_eqbool]
  intro x0 e0 x1 e1
  refine ⟨fun hne => ⟨(), fun u v hu hv h => ?_, rfl, trivial⟩, fun heq x5 e5 => ?_⟩
  · have := hu.len; have := hv.len; subst h; omega
  have e01 : a.a.l = a.b.l := by omega
  refine ⟨⟨0⟩, ⟨⟨by decide, by simp⟩, by simp⟩, ?_, ?_⟩
  · have e5 := e5.symm
    repeat' first | with_reducible apply And.intro | exact trivial | exact rfl | assumption
  rintro ⟨i⟩ ⟨⟨hi0, hi1⟩, ht⟩
  dsimp only at hi0 hi1 ht ⊢
  rw [Nat.one_mul] at ht
  refine ⟨fun hlt => ?_, fun hge => ?_⟩
  · have h1 : i.toNat < xs.length := by omega
    have h2 : i.toNat < ys.length := by omega
    refine ⟨⟨hi0, by omega⟩, fun p hp => ⟨xs[i.toNat], by rw [hp, Nat.mul_one]; exact hx.at_.get h1, ⟨hi0, by omega⟩, fun q hq => ⟨ys[i.toNat], by rw [hq, Nat.mul_one]; exact hy.at_.get h2, fun hne => ⟨?_, (), fun u v hu hv h => ?_, rfl, trivial⟩, fun hee => ⟨?_, fun z hz => ?_⟩⟩⟩⟩
    · repeat' first | with_reducible apply And.intro | exact trivial | exact rfl | assumption
    · exfalso
      have e1 := Sli.uniqB hu hx
      have e2 := Sli.uniqB hv hy
      subst e1 e2
      apply hne
      subst h
      rfl
    · repeat' first | with_reducible apply And.intro | exact trivial | exact rfl | assumption
    · rw [wrap_i64] at hz
      have hz' : z.toNat = i.toNat + 1 := by omega
      refine ⟨⟨z⟩, ⟨⟨by show 0 ≤ z; omega, by show z ≤ _; omega⟩, by (show xs.take (1 * z.toNat) = ys.take (1 * z.toNat)); rw [Nat.one_mul, hz']; exact take_succ_eqG ht h1 h2 (Classical.byContradiction hee)⟩, by show ((a.a.l : Int) - z).toNat < ((a.a.l : Int) - i).toNat; omega, ?_⟩
      repeat' first | with_reducible apply And.intro | exact trivial | exact rfl | assumption
  · refine ⟨(), fun u v hu hv => ?_, rfl, trivial⟩
    have e1 := Sli.uniqB hu hx
    have e2 := Sli.uniqB hv hy
    subst e1 e2
    rw [List.take_of_length_le (by omega), List.take_of_length_le (by omega)] at ht
    exact ht
theorem s_eqbool : SpecOK Tryz.prog S_eqbool.spec := fun a K hp hq => by
  obtain ⟨⟨xs, ys, hx, hy⟩, b1, b2⟩ := hp
  exact specD_at (an := [some (la_eqbool a xs ys)]) envOK cw0_ok (fun _ => g_eqbool a xs ys hx hy b1 b2) K ⟨⟨xs, ys, hx, hy⟩, b1, b2⟩ hq
theorem take8_eq {xs ys : List Int} {i : Nat} (hl : xs.length = ys.length) (h8 : 8 * i + 8 ≤ xs.length) (ht : xs.take (8 * i) = ys.take (8 * i)) (h : ∀ j, j < 8 → xs.getD (8 * i + j) 0 = ys.getD (8 * i + j) 0) : xs.take (8 * (i + 1)) = ys.take (8 * (i + 1)) := by
  refine ext_getD 0 (by rw [List.length_take, List.length_take, hl]) fun t ht' => ?_
  rw [List.length_take] at ht'
  have g : ∀ zs : List Int, (zs.take (8 * (i + 1))).getD t 0 = zs.getD t 0 := fun zs => by
    simp only [List.getD]; rw [List.getElem?_take, if_pos (by omega)]
  rw [g, g]
  by_cases hti : t < 8 * i
  · have k : ∀ zs : List Int, (zs.take (8 * i)).getD t 0 = zs.getD t 0 := fun zs => by
      simp only [List.getD]; rw [List.getElem?_take, if_pos hti]
    rw [← k xs, ← k ys, ht]
  · have := h (t - 8 * i) (by omega)
    rwa [show 8 * i + (t - 8 * i) = t by omega] at this
theorem g_eqdig (a : S2) (xs ys : List Int) (hx : Sli (Value.int .u8) 8 a.a.n a.a.o a.a.l a.a.k a.a.c xs) (hy : Sli (Value.int .u8) 8 a.b.n a.b.o a.b.l a.b.k a.b.c ys) (b1 : a.a.l ≤ 1000000) (b2 : a.b.l ≤ 1000000) : G_eqdig a xs ys := by
  have lx := hx.len
  have ly := hy.len
  have fx := hx.flat
  have fy := hy.flat
  rw [vc_eqdig]
  intro x0 e0 x1 e1
  refine ⟨fun hne => ⟨(), fun u v hu hv h => ?_, rfl, trivial⟩, fun heq x5 e5 => ?_⟩
  · have := hu.len; have := hv.len; subst h; omega
  have e01 : a.a.l = a.b.l := by omega
  refine ⟨⟨0⟩, ⟨⟨by decide, by simp⟩, by simp⟩, ?_, ?_⟩
  · have e5 := e5.symm
    repeat' first | with_reducible apply And.intro | exact trivial | exact rfl | assumption
  rintro ⟨i⟩ ⟨⟨hi0, hi1⟩, ht⟩
  dsimp only at hi0 hi1 ht ⊢
  refine ⟨fun hlt => ?_, fun hge => ?_⟩
  · have rx : ∀ (p t : Nat), p = a.a.o + i.toNat * 8 → t < 8 → Rd a.a.c (Nat.add p t) (.int .u8 (xs.getD (8 * i.toNat + t) 0)) := fun p t hp h => by
      have h1 : 8 * i.toNat + t < xs.length := by omega
      rw [getD_get h1, show Nat.add p t = a.a.o + (8 * i.toNat + t) by show p + t = _; omega]
      exact hx.at_.get h1
    have ry : ∀ (p t : Nat), p = a.b.o + i.toNat * 8 → t < 8 → Rd a.b.c (Nat.add p t) (.int .u8 (ys.getD (8 * i.toNat + t) 0)) := fun p t hp h => by
      have h1 : 8 * i.toNat + t < ys.length := by omega
      rw [getD_get h1, show Nat.add p t = a.b.o + (8 * i.toNat + t) by show p + t = _; omega]
      exact hy.at_.get h1
    refine ⟨⟨hi0, by omega⟩, fun p hp => ⟨_, rx p 0 hp (by decide), _, rx p 1 hp (by decide), _, rx p 2 hp (by decide), _, rx p 3 hp (by decide), _, rx p 4 hp (by decide), _, rx p 5 hp (by decide), _, rx p 6 hp (by decide), _, rx p 7 hp (by decide), ⟨hi0, by omega⟩, fun q hq => ⟨_, ry q 0 hq (by decide), _, ry q 1 hq (by decide), _, ry q 2 hq (by decide), _, ry q 3 hq (by decide), _, ry q 4 hq (by decide), _, ry q 5 hq (by decide), _, ry q 6 hq (by decide), _, ry q 7 hq (by decide), fun hne => ⟨?_, (), fun u v hu hv h => ?_, rfl, trivial⟩, fun hee => ⟨?_, fun z hz => ?_⟩⟩⟩⟩
    · repeat' first | with_reducible apply And.intro | exact trivial | exact rfl | assumption
    · exfalso
      have e1 := Sli.uniqI hu hx
      have e2 := Sli.uniqI hv hy
      subst e1 e2
      apply hne
      subst h
      repeat' first | with_reducible apply And.intro | exact trivial | exact rfl | assumption
    · repeat' first | with_reducible apply And.intro | exact trivial | exact rfl | assumption
    · obtain ⟨q0, q1, q2, q3, q4, q5, q6, q7, _⟩ := hee
      rw [wrap_i64] at hz
      have hz' : z.toNat = i.toNat + 1 := by omega
      refine ⟨⟨z⟩, ⟨⟨by show 0 ≤ z; omega, by show z ≤ _; omega⟩, ?_⟩, by show ((a.a.l : Int) - z).toNat < ((a.a.l : Int) - i).toNat; omega, ?_⟩
      · show xs.take (8 * z.toNat) = ys.take (8 * z.toNat)
        rw [hz']
        refine take8_eq (by omega) (by omega) ht fun j hj => ?_
        match j, hj with
        | 0, _ => exact q0
        | 1, _ => exact q1
        | 2, _ => exact q2
        | 3, _ => exact q3
        | 4, _ => exact q4
        | 5, _ => exact q5
        | 6, _ => exact q6
        | 7, _ => exact q7
      · repeat' first | with_reducible apply And.intro | exact trivial | exact rfl | assumption
  · refine ⟨(), fun u v hu hv => ?_, rfl, trivial⟩
    have e1 := Sli.uniqI hu hx
    have e2 := Sli.uniqI hv hy
    subst e1 e2
    rw [List.take_of_length_le (by omega), List.take_of_length_le (by omega)] at ht
    exact ht
theorem s_eqdig : SpecOK Tryz.prog S_eqdig.spec := fun a K hp hq => by
  obtain ⟨⟨xs, ys, hx, hy⟩, b1, b2⟩ := hp
  exact specD_at (an := [some (la_eqdig a xs ys)]) envOK cw0_ok (fun _ => g_eqdig a xs ys hx hy b1 b2) K ⟨⟨xs, ys, hx, hy⟩, b1, b2⟩ hq
theorem g_gsame (a : P2G) (x y : PX) (hx : PH a.a x) (hy : PH a.b y) (b1 : a.a.s1.l ≤ 1000 ∧ a.a.s2.l ≤ 1000 ∧ a.a.s3.l ≤ 1000) (b2 : a.b.s1.l ≤ 1000 ∧ a.b.s2.l ≤ 1000 ∧ a.b.s3.l ≤ 1000) : G_gsame a := by
  have f1 := hx.p1.flat
  have f2 := hx.p2.flat
  have f3 := hx.p3.flat
  have f4 := hy.p1.flat
  have f5 := hy.p2.flat
  have f6 := hy.p3.flat
  have no : (x = y → RollsEq a.a a.b → False) → ∃ b : BL, (∀ u v : PX, PH a.a u → PH a.b v → (b.b = true ↔ u = v ∧ RollsEq a.a a.b)) ∧ b.b = false ∧ True := fun h => ⟨⟨false⟩, fun u v hu hv => ⟨(fun h => nomatch h), fun e => by
    obtain rfl := hx.uniq hu
    obtain rfl := hy.uniq hv
    exact (h e.1 e.2).elim⟩, rfl, trivial⟩
  rw [vc_gsame]
  refine ⟨⟨trivial, ⟨_, _, hx.p1, hy.p1⟩, by omega, by omega⟩, ?_, fun _ h1 => ⟨⟨trivial, ⟨_, _, hx.p2, hy.p2⟩, by omega, by omega⟩, ?_, fun _ h2 => ⟨⟨trivial, ⟨_, _, hx.p3, hy.p3⟩, by omega, by omega⟩, ?_, fun _ h3 => ⟨fun hr => ?_, fun hr => no fun _ e => ?_⟩, fun _ h3 => no fun e _ => ?_, trivial⟩, fun _ h2 => no fun e _ => ?_, trivial⟩, fun _ h1 => no fun e _ => ?_, trivial⟩
  · repeat' first | with_reducible apply And.intro | exact trivial | exact rfl | assumption
  · repeat' first | with_reducible apply And.intro | exact trivial | exact rfl | assumption
  · repeat' first | with_reducible apply And.intro | exact trivial | exact rfl | assumption
  · obtain ⟨r0, r1, r2, r3, r4, _⟩ := hr
    refine ⟨⟨true⟩, fun u v hu hv => ⟨fun _ => ?_, fun _ => rfl⟩, rfl, trivial⟩
    have k1 := h1 _ _ hu.p1 hv.p1
    have k2 := h2 _ _ hu.p2 hv.p2
    have k3 := h3 _ _ hu.p3 hv.p3
    obtain ⟨u1, u2, u3⟩ := u
    obtain ⟨v1, v2, v3⟩ := v
    dsimp only at k1 k2 k3
    subst k1 k2 k3
    exact ⟨rfl, r0, r1, r2, r3, r4⟩
  · exact hr ⟨e.r0, e.r1, e.r2, e.r3, e.r4, trivial⟩
  · exact h3 _ _ hx.p3 hy.p3 (by rw [e])
  · exact h2 _ _ hx.p2 hy.p2 (by rw [e])
  · exact h1 _ _ hx.p1 hy.p1 (by rw [e])
theorem s_gsame : SpecOK Tryz.prog S_gsame.spec := fun a K hp hq => by
  obtain ⟨⟨⟨x, hx⟩, y, hy⟩, b1, b2⟩ := hp
  exact specD_at (an := []) envOK (cwD_ok s_eqi32 (cwD_ok s_eqbool (cwD_ok s_eqdig cw0_ok))) (fun _ => g_gsame a x y hx hy b1 b2) K ⟨⟨⟨x, hx⟩, y, hy⟩, b1, b2⟩ hq
end Go.Proofs.YtdjnipabfbblnaaGreatDoor
end

/- A game's rules: Seats, seat, Check (what is to be shown). -/
section
set_option maxRecDepth 100000
namespace Go.Proofs.YtdjnipabfbblnaaGreatDoor
open Go.Ev
-- keep cdP cdF gmF PH num foldI dnum frm lastC rollZ rollOK inAll Go.Ev.Sli Go.Ev.HV insAt argP rightP hasC farC stepC okAt twoC truthC W32 runC storeC manyC cells4
structure GmA where
  stakes : SA
  cells : SA
  code : CdA
structure GpA where
  g : GmA
  p : PA
structure GsA where
  g : GmA
  n : Int
def inAll (cs xs : List Int) (n : Nat) : Prop := ∀ i, i < n → cs.getD (2 * i) 0 ≤ xs.getD i 0 ∧ xs.getD i 0 ≤ cs.getD (2 * i + 1) 0
def rollZ (p : PA) : Prop := p.r0 = 0 ∧ p.r1 = 0 ∧ p.r2 = 0 ∧ p.r3 = 0 ∧ p.r4 = 0
def rollOK (cells seats : Nat) (p : PA) (x : PX) : Prop := (0 ≤ p.r0 ∧ p.r0 < cells) ∧ (2 ≤ p.r1 ∧ p.r1 ≤ 1000) ∧ (0 ≤ p.r2 ∧ p.r2 < seats) ∧ (0 ≤ p.r3 ∧ p.r3 < seats) ∧ x.gone.getD p.r3.toNat false = false
set_option linter.unusedSectionVars false
variable [Go.Ev.Frozen Tryz.prog]
noncomputable section
abbrev unk : Value := .iface UNK .nilIface
def gmR (a : GmA) (i : Nat) : List (Nat × PO) :=
  (i, .p (.row [unk, a.stakes.v (i + 1), unk, unk, unk, unk, unk, unk, unk, unk, .pointer (some ⟨i + 3, 0, none⟩), unk, a.cells.v (i + 2)] 101 .gro)) ::
  (i + 1, .f a.stakes.c 3 .gro) :: (i + 2, .f a.cells.c 138 .gro) :: cdR a.code (i + 3)
def gmK {β : Type} (A : AW) (i : Nat) (v : Value) (k : GmA → List (Nat × Nat) → Option β) : Option β :=
  ptK v fun b => rowK A b fun r => saK A (i + 1) (lv r 1) fun s q1 => saK A (i + 2) (lv r 12) fun c q2 => cdK A (i + 3) (lv r 10) fun cd q3 =>
    k ⟨s, c, cd⟩ ((i, b) :: (q1 ++ (q2 ++ q3)))
def gmF (a : GmA) : Prop := FlatL a.stakes.c ∧ FlatL a.cells.c ∧ cdF a.code
def S_seats : SpecD where
  f := 41
  α := GmA
  args _ := [.pointer (some ⟨13, 0, none⟩)]
  R a := gmR a 13
  n := 13 + 11
  pre a := gmF a
  outs := [⟨Unit, fun _ _ => True, fun a _ => tgI .i64 a.stakes.l, fun _ _ => [], fun _ _ => 13 + 11, fun _ _ => []⟩]
  pick _ _ := 0
  find l A := gmK A 13 (lv l 0) fun g q => some (g, q)
def G_seats (a : GmA) : Prop := fnW Tryz.prog E0 cw0 [] S_seats.f (S_seats.args a) (mem (S_seats.R a) S_seats.n) (endD Tryz.prog S_seats a)
def S_seat : SpecD where
  f := 50
  α := GsA
  args a := [.pointer (some ⟨13, 0, none⟩), tgI .i64 a.n]
  R a := gmR a.g 13
  n := 13 + 11
  pre a := gmF a.g
  outs := [⟨Unit, fun a _ => 0 ≤ a.n ∧ a.n < a.g.stakes.l, fun _ _ => .bool true, fun _ _ => [], fun _ _ => 13 + 11, fun _ _ => []⟩,
    ⟨Unit, fun a _ => ¬ (0 ≤ a.n ∧ a.n < a.g.stakes.l), fun _ _ => .bool false, fun _ _ => [], fun _ _ => 13 + 11, fun _ _ => []⟩]
  pick v _ := match v with
    | .bool b => Bool.rec 1 0 b
    | _ => 1
  find l A := gmK A 13 (lv l 0) fun g q => wI (lv l 1) fun n => some (⟨g, n⟩, q)
def G_seat (a : GsA) : Prop := fnW Tryz.prog E0 (cwN (fun c => cwD Tryz.prog S_seats c) 3) [] S_seat.f (S_seat.args a) (mem (S_seat.R a) S_seat.n) (endD Tryz.prog S_seat a)
abbrev lenOK (a : GpA) : Prop := a.p.s1.l = a.g.cells.l ∧ a.p.s2.l = a.g.stakes.l ∧ a.p.s3.l = a.g.stakes.l
def S_check : SpecD where
  f := 34
  α := GpA
  args a := [.pointer (some ⟨13, 0, none⟩), a.p.v (13 + 11)]
  R a := gmR a.g 13 ++ a.p.R (13 + 11) 50
  n := 13 + 14
  pre a := gmF a.g ∧ (∃ x, PH a.p x) ∧ (∃ cs, Sli (Value.int .i32) 2 a.g.cells.n a.g.cells.o a.g.cells.l a.g.cells.k a.g.cells.c cs) ∧ a.p.s1.l ≤ 1000
  outs := [⟨Unit, fun a _ => lenOK a ∧ ∀ x cs, PH a.p x → Sli (Value.int .i32) 2 a.g.cells.n a.g.cells.o a.g.cells.l a.g.cells.k a.g.cells.c cs → inAll cs x.vars a.p.s1.l ∧ (rollZ a.p ∨ rollOK a.g.cells.l a.g.stakes.l a.p x), fun _ _ => .int .i64 0, fun _ _ => [], fun _ _ => 13 + 14, fun _ _ => []⟩,
    ⟨Unit, fun a _ => ¬ lenOK a, fun _ _ => .int .i64 3, fun _ _ => [], fun _ _ => 13 + 14, fun _ _ => []⟩,
    ⟨Unit, fun a _ => lenOK a ∧ ∀ x cs, PH a.p x → Sli (Value.int .i32) 2 a.g.cells.n a.g.cells.o a.g.cells.l a.g.cells.k a.g.cells.c cs → ¬ (inAll cs x.vars a.p.s1.l ∧ (rollZ a.p ∨ rollOK a.g.cells.l a.g.stakes.l a.p x)), fun _ _ => .int .i64 2, fun _ _ => [], fun _ _ => 13 + 14, fun _ _ => []⟩]
  pick v _ := match v with
    | .int _ z => Int.rec (fun n => Bool.rec (Bool.rec 0 2 (Nat.beq n 2)) 1 (Nat.beq n 3)) (fun _ => 0) z
    | _ => 0
  find l A := gmK A 13 (lv l 0) fun g q => paK A (13 + 11) (agv (lv l 1)) fun p r => some (⟨g, p⟩, q ++ r)
def la_check (a : GpA) (x : PX) (cs : List Int) : LA where
  α := KI
  at_ e := ⟨[(0, .pointer (some ⟨13, 0, none⟩)), (1, a.p.v (13 + 11)), (3, .pointer (some ⟨13 + 14, 0, none⟩)), (38, a.p.s1.v (13 + 11)), (39, tgI .i64 a.p.s1.l), (40, tgI .i64 e.k)],
    (13 + 14, .p (.row (a.p.s1.v (13 + 11) :: a.p.s2.v (13 + 12) :: a.p.s3.v (13 + 13) :: rolls a.p) 29 .own)) :: (gmR a.g 13 ++ a.p.R (13 + 11) 50), 13 + 15⟩
  J e := (0 ≤ e.k ∧ e.k ≤ a.p.s1.l) ∧ lenOK a ∧ inAll cs x.vars e.k.toNat
  μ e := (a.p.s1.l - e.k).toNat
  ren s := renP (13 + 14) (tv s 3)
def G_check (a : GpA) (x : PX) (cs : List Int) : Prop := fnW Tryz.prog E0 (cwN (fun c => cwD Tryz.prog S_seats (cwD Tryz.prog S_seat c)) 3) [some (la_check a x cs)] S_check.f (S_check.args a) (mem (S_check.R a) S_check.n) (endD Tryz.prog S_check a)
end
end Go.Proofs.YtdjnipabfbblnaaGreatDoor
end

/- A game's rules: Seats, seat, Check are what is told of them. -/
section
set_option maxRecDepth 100000
namespace Go.Proofs.YtdjnipabfbblnaaGreatDoor
open Go.Ev
set_option linter.unusedSectionVars false
variable [Go.Ev.Frozen Tryz.prog]
noncomputable section
def W_G_check_0 : GpA → Option AO := fun (a : GpA) => Option.some (AO.row (Array.toList (Array.mk [Value.iface (1000000009 : Nat) (Value.agg (Array.mk [Value.bool a.2.1.1, Value.slice (Option.some (Addr.mk (24 : Nat)
a.2.1.2 Option.none)) a.2.1.3 a.2.1.4])), Value.iface (1000000009 : Nat) (Value.agg (Array.mk [Value.bool a.2.2.1, Value.slice (Option.some (Addr.mk (25 : Nat) a.2.2.2
Option.none)) a.2.2.3 a.2.2.4])), Value.iface (1000000009 : Nat) (Value.agg (Array.mk [Value.bool a.2.3.1, Value.slice (Option.some (Addr.mk (26 : Nat) a.2.3.2 Option.none))
a.2.3.3 a.2.3.4])), Value.iface (1000000007 : Nat) (Value.int IntKind.i64 a.2.4), Value.iface (1000000007 : Nat) (Value.int IntKind.i64 a.2.5), Value.iface (1000000007 : Nat)
(Value.int IntKind.i64 a.2.6), Value.iface (1000000007 : Nat) (Value.int IntKind.i64 a.2.7), Value.iface (1000000007 : Nat) (Value.int IntKind.u64 a.2.8)])) (29 : Nat) Md.own)
def W_G_check_1 : GpA → Option AO := fun (a : GpA) => Option.some (AO.row a.2.2.5 (4 : Nat) Md.gro)
def W_G_check_2 : GpA → Option AO := fun (a : GpA) => Option.some (AO.row a.2.3.5 (50 : Nat) Md.gro)
end
abbrev QYgcP_6 : Prop := True ∧ True ∧ True ∧ True ∧ True ∧ True ∧ True ∧ True ∧ True ∧ True ∧ True ∧ True ∧ True ∧ True ∧ True ∧ True ∧ True ∧ True ∧ True ∧ True ∧ True ∧ True ∧
 True ∧ True ∧ True ∧ True ∧ True
abbrev QYgcP_10 : Prop := True ∧ True ∧ True ∧ True ∧ True ∧ True ∧ True ∧ True ∧ True ∧ True ∧ True ∧ True ∧ True ∧ True ∧ True ∧ True ∧ True ∧ True ∧ True ∧ QYgcP_6
abbrev QYgcP_5 (a0 : GpA) : Prop := a0.2.1.3 = a0.1.2.3 ∧ a0.2.2.3 = a0.1.1.3 ∧ a0.2.3.3 = a0.1.1.3
abbrev QYgcP_3 (a0 : GpA) : Prop := ∃ (_ : Unit), (QYgcP_5 a0 ∧ (∀ (b1 : PX) (b2 : List Int), PH a0.2 b1 → Sli (Value.int IntKind.i32) 2 a0.1.2.1 a0.1.2.2 a0.1.2.3 a0.1.2.4
 a0.1.2.5 b2 → ¬(inAll b2 b1.1 a0.2.1.3 ∧ (rollZ a0.2 ∨ rollOK a0.1.2.3 a0.1.1.3 a0.2 b1)))) ∧ (2 : Int) = 2 ∧ True
abbrev QYgcP_1 (a0 : GpA) : Prop := QYgcP_10 ∧ QYgcP_3 a0
abbrev QYgcP_9 (a0 : CdA) : Prop := True ∧ a0.1 = a0.1 ∧ a0.2 = a0.2 ∧ Z4 a0.3 ∧ Z4 a0.4 ∧ Z4 a0.5 ∧ Z4 a0.6 ∧ Z4 a0.7 ∧ Z4 a0.8 ∧ Z4 a0.9 ∧ a0.10 = a0.10 ∧ a0.11 = a0.11 ∧ a0.12 =
 a0.12 ∧ a0.13 = a0.13 ∧ a0.14 = a0.14 ∧ True
abbrev QYgcP_2 (a0 : GmA) : Prop := (True ∧ True ∧ Z4 a0.1 ∧ True ∧ True ∧ True ∧ True ∧ True ∧ True ∧ True ∧ True ∧ 0 = 0 ∧ True ∧ Z4 a0.2 ∧ True) ∧ ZF a0.1.5 ∧ ZF a0.2.5 ∧
 QYgcP_9 a0.3 ∧ ZF a0.3.3.5 ∧ ZF a0.3.4.5 ∧ ZF a0.3.5.5 ∧ ZF a0.3.6.5 ∧ ZF a0.3.7.5 ∧ ZF a0.3.8.5 ∧ ZF a0.3.9.5 ∧ True
abbrev QYgcP_4 (a0 : GpA) : Prop := ((True ∧ Z4 a0.2.1 ∧ Z4 a0.2.2 ∧ Z4 a0.2.3 ∧ ZR a0.2) ∧ (True ∧ True ∧ Z4 a0.1.1 ∧ True ∧ True ∧ True ∧ True ∧ True ∧ True ∧ True ∧ True ∧ 0 = 0
 ∧ True ∧ Z4 a0.1.2 ∧ True) ∧ ZF a0.1.1.5 ∧ ZF a0.1.2.5 ∧ QYgcP_9 a0.1.3 ∧ ZF a0.1.3.3.5 ∧ ZF a0.1.3.4.5 ∧ ZF a0.1.3.5.5 ∧ ZF a0.1.3.6.5 ∧ ZF a0.1.3.7.5 ∧ ZF a0.1.3.8.5 ∧ ZF
 a0.1.3.9.5 ∧ ZF a0.2.1.5 ∧ ZF a0.2.2.5 ∧ ZF a0.2.3.5 ∧ True) ∧ True
abbrev QYgcP_7 (a0 : GpA) : Prop := True ∧ True ∧ True ∧ True ∧ True ∧ True ∧ True ∧ True ∧ True ∧ True ∧ (True ∧ True) ∧ (W_G_check_0 a0 = W_G_check_0 a0 ∧ True) ∧ (W_G_check_1 a0
 = W_G_check_1 a0 ∧ True) ∧ True ∧ True ∧ True ∧ True ∧ True ∧ (True ∧ True) ∧ (W_G_check_0 a0 = W_G_check_0 a0 ∧ True) ∧ (W_G_check_2 a0 = W_G_check_2 a0 ∧ True) ∧ True ∧ True ∧
 True ∧ True ∧ True ∧ True
abbrev QYgcP_8 (a0 : GpA) : Prop := ∃ (_ : Unit), (QYgcP_5 a0 ∧ (∀ (b1 : PX) (b2 : List Int), PH a0.2 b1 → Sli (Value.int IntKind.i32) 2 a0.1.2.1 a0.1.2.2 a0.1.2.3 a0.1.2.4
 a0.1.2.5 b2 → inAll b2 b1.1 a0.2.1.3 ∧ (rollZ a0.2 ∨ rollOK a0.1.2.3 a0.1.1.3 a0.2 b1))) ∧ (0 : Int) = 0 ∧ True
abbrev QYgcP_11 (a0 : GmA) : Prop := True ∧ FlatL a0.1.5 ∧ FlatL a0.2.5 ∧ cdF a0.3
theorem vc_seats (a : GmA) : G_seats a = (∀ (x0 : Int), x0 = (↑a.1.3 : Int) → ∃ (_ : Unit), True ∧ (↑a.1.3 : Int) = x0 ∧ True) := by kernel_rfl
theorem vc_seat (a : GsA) : G_seat a = ((0 ≤ a.2 → QYgcP_11 a.1 ∧ ((0 = 0 ∧ True) ∧ QYgcP_2 a.1) ∧ (∀ (_ : Unit), True → (a.2 < (↑a.1.1.3 : Int) → (∃ (_ : Unit), (0 ≤ a.2 ∧ a.2 < (↑a.1.1.3 : Int)) ∧ true = true ∧ True))
∧ (¬(a.2 < (↑a.1.1.3 : Int)) → ∃ (_ : Unit), (0 ≤ a.2 ∧ a.2 < (↑a.1.1.3 : Int) → False) ∧ false = false ∧ True)) ∧ True) ∧ (¬(0 ≤ a.2) → ∃ (_ : Unit), (0 ≤ a.2 ∧ a.2 < (↑a.1.1.3 :
Int) → False) ∧ false = false ∧ True)) := by kernel_rfl
set_option maxHeartbeats 3200000 in
theorem vc_check (a : GpA) (x : PX) (cs : List Int) : G_check a x cs = (∀ (x0 : Int), x0 = (↑a.2.1.3 : Int) → ∀ (x1 : Int), x1 = (↑a.1.2.3 : Int) → (x0 ≠ x1 → QYgcP_6 ∧ (∃ (_ : Unit), (QYgcP_5 a → False) ∧ (3 : Int) = 3 ∧ True)) ∧ (¬(x0 ≠ x1) → ∀ (x3
: Int), x3 = (↑a.2.2.3 : Int) → QYgcP_11 a.1 ∧ ((0 = 0 ∧ True) ∧ QYgcP_2 a.1) ∧ (∀ (_ : Unit), True → (x3 ≠ (↑a.1.1.3 : Int) → (True ∧ True ∧ True ∧ True ∧ True ∧ True ∧ True ∧
True ∧ True ∧ True ∧ (True ∧ True) ∧ (W_G_check_0 a = W_G_check_0 a ∧ True) ∧ (W_G_check_1 a = W_G_check_1 a ∧ True) ∧ True ∧ True ∧ True ∧ True ∧ True ∧ True ∧ True ∧ True ∧ True
∧ True ∧ True ∧ True ∧ True ∧ True) ∧ (∃ (_ : Unit), (QYgcP_5 a → False) ∧ (3 : Int) = 3 ∧ True)) ∧ (¬(x3 ≠ (↑a.1.1.3 : Int)) → ∀ (x6 : Int), x6 = (↑a.2.3.3 : Int) → QYgcP_11 a.1 ∧
((0 = 0 ∧ True) ∧ QYgcP_2 a.1) ∧ (∀ (_ : Unit), True → (x6 ≠ (↑a.1.1.3 : Int) → QYgcP_7 a ∧ (∃ (_ : Unit), (QYgcP_5 a → False) ∧ (3 : Int) = 3 ∧ True)) ∧ (¬(x6 ≠ (↑a.1.1.3 : Int))
→ QYgcP_7 a ∧ ∀ (x9 : Int), x9 = (↑a.2.1.3 : Int) → ∃ (x10 : KI), ((0 ≤ x10.1 ∧ x10.1 ≤ (↑a.2.1.3 : Int)) ∧ QYgcP_5 a ∧ inAll cs x.1 (Int.toNat x10.1)) ∧ ((0 = 0 ∧ (Z4 a.2.1 ∧ Z4
a.2.2 ∧ Z4 a.2.3 ∧ ZR a.2) ∧ 0 = 0 ∧ Z4 a.2.1 ∧ (↑a.2.1.3 : Int) = x9 ∧ x10.1 = 0 ∧ True) ∧ QYgcP_4 a) ∧ ∀ (x11 : KI), (0 ≤ x11.1 ∧ x11.1 ≤ (↑a.2.1.3 : Int)) ∧ QYgcP_5 a ∧ inAll cs
x.1 (Int.toNat x11.1) → (x11.1 < (↑a.2.1.3 : Int) → (0 ≤ x11.1 ∧ x11.1 < (↑a.2.1.3 : Int)) ∧ (∀ (x12 : Nat), x12 = a.2.1.2 + Int.toNat x11.1 * 1 → ∃ (x13 : Int), Rd a.2.1.5
(Nat.add x12 0) (Value.int IntKind.i32 x13) ∧ (0 ≤ x11.1 ∧ x11.1 < (↑a.1.2.3 : Int)) ∧ ∀ (x14 : Nat), x14 = a.1.2.2 + Int.toNat x11.1 * 2 → ((0 : Int) ≤ (0 : Int) ∧ (0 : Int) < (2
: Int)) ∧ ∀ (x15 : Nat), x15 = x14 + 0 → ∃ (x16 : Int), Rd a.1.2.5 (Nat.add x15 0) (Value.int IntKind.i32 x16) ∧ (x13 < x16 → QYgcP_3 a) ∧ (¬(x13 < x16) → (0 ≤ x11.1 ∧ x11.1 <
(↑a.1.2.3 : Int)) ∧ ∀ (x20 : Nat), x20 = a.1.2.2 + Int.toNat x11.1 * 2 → ((0 : Int) ≤ (1 : Int) ∧ (1 : Int) < (2 : Int)) ∧ ∀ (x21 : Nat), x21 = x20 + 1 → ∃ (x22 : Int), Rd a.1.2.5
(Nat.add x21 0) (Value.int IntKind.i32 x22) ∧ (x22 < x13 → QYgcP_3 a) ∧ (¬(x22 < x13) → ∀ (x26 : Int), x26 = IntKind.wrap .i64 (x11.1 + (1 : Int)) → ∃ (x27 : KI), ((0 ≤ x27.1 ∧
x27.1 ≤ (↑a.2.1.3 : Int)) ∧ QYgcP_5 a ∧ inAll cs x.1 (Int.toNat x27.1)) ∧ Int.toNat ((↑a.2.1.3 : Int) - x27.1) < Int.toNat ((↑a.2.1.3 : Int) - x11.1) ∧ (0 = 0 ∧ (Z4 a.2.1 ∧ Z4
a.2.2 ∧ Z4 a.2.3 ∧ ZR a.2) ∧ 0 = 0 ∧ Z4 a.2.1 ∧ (↑a.2.1.3 : Int) = (↑a.2.1.3 : Int) ∧ x27.1 = x26 ∧ True) ∧ QYgcP_4 a)))) ∧ (¬(x11.1 < (↑a.2.1.3 : Int)) → (a.2.4 = 0 ∧ a.2.5 = 0 ∧
a.2.6 = 0 ∧ a.2.7 = 0 ∧ a.2.8 = 0 ∧ True → QYgcP_8 a) ∧ (¬(a.2.4 = 0 ∧ a.2.5 = 0 ∧ a.2.6 = 0 ∧ a.2.7 = 0 ∧ a.2.8 = 0 ∧ True) → (a.2.4 < 0 → QYgcP_1 a) ∧ (¬(a.2.4 < 0) → ∀ (x34 :
Int), x34 = (↑a.1.2.3 : Int) → (x34 ≤ a.2.4 → QYgcP_1 a) ∧ (¬(x34 ≤ a.2.4) → (a.2.5 < 2 → QYgcP_1 a) ∧ (¬(a.2.5 < 2) → (1000 < a.2.5 → QYgcP_1 a) ∧ (¬(1000 < a.2.5) → QYgcP_11 a.1
∧ ((0 = 0 ∧ a.2.6 = a.2.6 ∧ True) ∧ QYgcP_2 a.1) ∧ (∀ (_ : Unit), 0 ≤ a.2.6 ∧ a.2.6 < (↑a.1.1.3 : Int) → QYgcP_11 a.1 ∧ ((0 = 0 ∧ a.2.7 = a.2.7 ∧ True) ∧ QYgcP_2 a.1) ∧ (∀ (_ :
Unit), 0 ≤ a.2.7 ∧ a.2.7 < (↑a.1.1.3 : Int) → (0 ≤ a.2.7 ∧ a.2.7 < (↑a.2.2.3 : Int)) ∧ ∀ (x46 : Nat), x46 = a.2.2.2 + Int.toNat a.2.7 * 1 → ∃ (x47 : Bool), Rd a.2.2.5 (Nat.add x46
0) (Value.bool x47) ∧ QYgcP_10 ∧ (x47 = true → QYgcP_3 a) ∧ (x47 = false → QYgcP_8 a)) ∧ (∀ (_ : Unit), (0 ≤ a.2.7 ∧ a.2.7 < (↑a.1.1.3 : Int) → False) → QYgcP_1 a) ∧ True) ∧ (∀ (_
: Unit), (0 ≤ a.2.6 ∧ a.2.6 < (↑a.1.1.3 : Int) → False) → QYgcP_1 a) ∧ True)))))))) ∧ True)) ∧ True)) := by kernel_rfl
theorem g_seats (a : GmA) : G_seats a := by rw [vc_seats]; intro x0 e0; exact ⟨(), trivial, e0.symm, trivial⟩
theorem s_seats : SpecOK Tryz.prog S_seats.spec := fun a => specD_at (an := []) envOK cw0_ok (fun _ => g_seats a)
theorem g_seat (a : GsA) (hg : gmF a.g) : G_seat a := by
  have hg0 := hg
  obtain ⟨g1, g2, gc⟩ := hg
  obtain ⟨f1, f2, f3, f4, f5, f6, f7⟩ := gc
  rw [vc_seat]
  exact ⟨fun h => ⟨⟨trivial, hg0⟩, by repeat' first | with_reducible apply And.intro | exact trivial | exact rfl | assumption, fun _ _ => ⟨fun k => ⟨(), ⟨h, k⟩, rfl, trivial⟩, fun k => ⟨(), fun q => k q.2, rfl, trivial⟩⟩, trivial⟩, fun h => ⟨(), fun q => h q.1, rfl, trivial⟩⟩
theorem s_seat : SpecOK Tryz.prog S_seat.spec := fun a => specD_at (an := []) envOK (cwN_ok (fun _ h => cwD_ok s_seats h) 3) (g_seat a)
theorem celRd {k : IntKind} {n : Bool} {o l kk : Nat} {c : List Value} {cs : List Int} (h : Sli (Value.int k) 2 n o l kk c cs) {i p x j : Nat} (hi : i < l) (e : x = o + i * 2) (ep : p = x + j) (hj : j < 2) : Rd c (Nat.add p 0) (.int k (cs.getD (2 * i + j) 0)) := by
  have hlen := h.len
  have hl : 2 * i + j < cs.length := by omega
  have := h.at_ (2 * i + j) (cs.getD (2 * i + j) 0) (by simp [List.getD, hl])
  rw [show Nat.add p 0 = o + (2 * i + j) by show p + 0 = _; omega]
  exact this
set_option maxHeartbeats 1600000 in
theorem g_check (a : GpA) (x : PX) (cs : List Int) (hg : gmF a.g) (hp : PH a.p x) (hc : Sli (Value.int .i32) 2 a.g.cells.n a.g.cells.o a.g.cells.l a.g.cells.k a.g.cells.c cs) (hm : a.p.s1.l ≤ 1000) : G_check a x cs := by
  have hg0 := hg
  obtain ⟨g1, g2, gc⟩ := hg
  obtain ⟨f1, f2, f3, f4, f5, f6, f7⟩ := gc
  have p1 := hp.p1.flat
  have p2 := hp.p2.flat
  have p3 := hp.p3.flat
  have GOOD : (inAll cs x.vars a.p.s1.l ∧ (rollZ a.p ∨ rollOK a.g.cells.l a.g.stakes.l a.p x)) → ∀ (y : PX) (ds : List Int), PH a.p y → Sli (Value.int .i32) 2 a.g.cells.n a.g.cells.o a.g.cells.l a.g.cells.k a.g.cells.c ds → inAll ds y.vars a.p.s1.l ∧ (rollZ a.p ∨ rollOK a.g.cells.l a.g.stakes.l a.p y) := fun h y ds hy hd => by rw [PH.uniq hy hp, Sli.uniqI hd hc]; exact h
  have BAD : ¬ (inAll cs x.vars a.p.s1.l ∧ (rollZ a.p ∨ rollOK a.g.cells.l a.g.stakes.l a.p x)) → ∀ (y : PX) (ds : List Int), PH a.p y → Sli (Value.int .i32) 2 a.g.cells.n a.g.cells.o a.g.cells.l a.g.cells.k a.g.cells.c ds → ¬ (inAll ds y.vars a.p.s1.l ∧ (rollZ a.p ∨ rollOK a.g.cells.l a.g.stakes.l a.p y)) := fun h y ds hy hd => by rw [PH.uniq hy hp, Sli.uniqI hd hc]; exact h
  rw [vc_check]
  intro x0 e0 x1 e1
  refine ⟨fun h => ⟨by repeat' first | with_reducible apply And.intro | exact trivial | exact rfl | assumption, (), fun k => h (by rw [e0, e1, k.1]), rfl, trivial⟩, fun h x3 e3 => ⟨⟨trivial, hg0⟩, by repeat' first | with_reducible apply And.intro | exact trivial | exact rfl | assumption, fun _ _ => ⟨fun h3 => ⟨by repeat' first | with_reducible apply And.intro | exact trivial | exact rfl | assumption, (), fun k => h3 (by rw [e3, k.2.1]), rfl, trivial⟩, fun h3 x6 e6 => ⟨⟨trivial, hg0⟩, by repeat' first | with_reducible apply And.intro | exact trivial | exact rfl | assumption, fun _ _ => ⟨fun h6 => ⟨by repeat' first | with_reducible apply And.intro | exact trivial | exact rfl | assumption, (), fun k => h6 (by rw [e6, k.2.2]), rfl, trivial⟩, fun h6 => ⟨by repeat' first | with_reducible apply And.intro | exact trivial | exact rfl | assumption, fun x9 e9 => ?_⟩⟩, trivial⟩⟩, trivial⟩⟩
  have l1 : a.p.s1.l = a.g.cells.l := by have : (a.p.s1.l : Int) = a.g.cells.l := e0.symm.trans ((Classical.not_not.1 h).trans e1); omega
  have l2 : a.p.s2.l = a.g.stakes.l := by have : (a.p.s2.l : Int) = a.g.stakes.l := e3.symm.trans (Classical.not_not.1 h3); omega
  have l3 : a.p.s3.l = a.g.stakes.l := by have : (a.p.s3.l : Int) = a.g.stakes.l := e6.symm.trans (Classical.not_not.1 h6); omega
  have hlen : lenOK a := ⟨l1, l2, l3⟩
  have e9' := e9.symm
  refine ⟨⟨0⟩, ⟨⟨Int.le_refl 0, Int.natCast_nonneg _⟩, hlen, fun i hi => absurd hi (Nat.not_lt_zero _)⟩, by repeat' first | with_reducible apply And.intro | exact trivial | exact rfl | assumption, ?_⟩
  rintro ⟨k⟩ ⟨⟨hk0, hk1⟩, _, hin⟩
  dsimp only at hk0 hk1 hin
  have s1l : a.2.1.3 = a.p.s1.l := rfl
  have c1l : a.1.2.3 = a.g.cells.l := rfl
  have st1 : a.1.1.3 = a.g.stakes.l := rfl
  have g2l : a.2.2.3 = a.p.s2.l := rfl
  refine ⟨fun hlt => ?_, fun hge => ?_⟩
  · have hlt' : k < (a.p.s1.l : Int) := hlt
    have hkc : k.toNat < a.g.cells.l := by omega
    refine ⟨⟨hk0, hlt⟩, fun x12 e12 => ⟨x.vars.getD k.toNat 0, Sli.rdD hp.p1 (by omega) e12, ⟨hk0, by show k < (a.g.cells.l : Int); omega⟩, fun x14 e14 => ⟨⟨by decide, by decide⟩, fun x15 e15 => ⟨cs.getD (2 * k.toNat + 0) 0, celRd hc hkc e14 e15 (by decide), fun hb => ⟨(), ⟨hlen, BAD fun q => ?_⟩, rfl, trivial⟩, fun hb => ⟨⟨hk0, by show k < (a.g.cells.l : Int); omega⟩, fun x20 e20 => ⟨⟨by decide, by decide⟩, fun x21 e21 => ⟨cs.getD (2 * k.toNat + 1) 0, celRd hc hkc e20 e21 (by decide), fun hb2 => ⟨(), ⟨hlen, BAD fun q => ?_⟩, rfl, trivial⟩, fun hb2 x26 e26 => ?_⟩⟩⟩⟩⟩⟩⟩
    · have := (q.1 k.toNat (by omega)).1
      rw [Nat.add_zero] at hb; omega
    · have := (q.1 k.toNat (by omega)).2
      omega
    · have e26 : x26 = IntKind.wrap .i64 (k + 1) := e26
      have e26' : k + 1 = x26 := by rw [e26, wrap_sm (by omega)]
      refine ⟨⟨k + 1⟩, ⟨⟨by show 0 ≤ k + 1; omega, by show k + 1 ≤ (a.p.s1.l : Int); omega⟩, hlen, fun i hi => ?_⟩, by show ((a.p.s1.l : Int) - (k + 1)).toNat < ((a.p.s1.l : Int) - k).toNat; omega, by repeat' first | with_reducible apply And.intro | exact trivial | exact rfl | assumption⟩
      have hi' : i < (k + 1).toNat := hi
      by_cases hik : i < k.toNat
      · exact hin i hik
      · have : i = k.toNat := by omega
        rw [this]; rw [Nat.add_zero] at hb
        exact ⟨by omega, by omega⟩
  · have hkl : k.toNat = a.p.s1.l := by have : ¬ k < (a.p.s1.l : Int) := hge; have : k ≤ (a.p.s1.l : Int) := hk1; omega
    rw [hkl] at hin
    refine ⟨fun hz => ⟨(), ⟨hlen, GOOD ⟨hin, Or.inl ⟨hz.1, hz.2.1, hz.2.2.1, hz.2.2.2.1, hz.2.2.2.2.1⟩⟩⟩, rfl, trivial⟩, fun hz => ?_⟩
    have hnz : ¬ rollZ a.p := fun q => hz ⟨q.1, q.2.1, q.2.2.1, q.2.2.2.1, q.2.2.2.2, trivial⟩
    have BR : ¬ rollOK a.g.cells.l a.g.stakes.l a.p x → ¬ (inAll cs x.vars a.p.s1.l ∧ (rollZ a.p ∨ rollOK a.g.cells.l a.g.stakes.l a.p x)) := fun hr q => q.2.elim hnz hr
    refine ⟨fun h1 => ⟨by repeat' first | with_reducible apply And.intro | exact trivial | exact rfl | assumption, (), ⟨hlen, BAD (BR fun q => ?_)⟩, rfl, trivial⟩, fun h1 x34 e34 => ⟨fun h4 => ⟨by repeat' first | with_reducible apply And.intro | exact trivial | exact rfl | assumption, (), ⟨hlen, BAD (BR fun q => ?_)⟩, rfl, trivial⟩, fun h4 => ⟨fun h5 => ⟨by repeat' first | with_reducible apply And.intro | exact trivial | exact rfl | assumption, (), ⟨hlen, BAD (BR fun q => ?_)⟩, rfl, trivial⟩, fun h5 => ⟨fun h7 => ⟨by repeat' first | with_reducible apply And.intro | exact trivial | exact rfl | assumption, (), ⟨hlen, BAD (BR fun q => ?_)⟩, rfl, trivial⟩, fun h7 => ?_⟩⟩⟩⟩
    · have := q.1.1; have : a.p.r0 < 0 := h1; omega
    · have := q.1.2; have : x34 ≤ a.p.r0 := h4; omega
    · have := q.2.1.1; have : a.p.r1 < 2 := h5; omega
    · have := q.2.1.2; have : 1000 < a.p.r1 := h7; omega
    · refine ⟨⟨trivial, hg0⟩, by repeat' first | with_reducible apply And.intro | exact trivial | exact rfl | assumption, fun _ h8 => ⟨⟨trivial, hg0⟩, by repeat' first | with_reducible apply And.intro | exact trivial | exact rfl | assumption, fun _ h9 => ⟨⟨h9.1, by show a.p.r3 < (a.p.s2.l : Int); rw [l2]; exact h9.2⟩, fun x46 e46 => ⟨x.gone.getD a.p.r3.toNat false, ?_, by repeat' first | with_reducible apply And.intro | exact trivial | exact rfl | assumption, fun hb => ⟨(), ⟨hlen, BAD (BR fun q => ?_)⟩, rfl, trivial⟩, fun hb => ⟨(), ⟨hlen, GOOD ⟨hin, Or.inr ⟨⟨?_, ?_⟩, ⟨?_, ?_⟩, h8, h9, hb⟩⟩⟩, rfl, trivial⟩⟩⟩, fun _ h9 => ⟨by repeat' first | with_reducible apply And.intro | exact trivial | exact rfl | assumption, (), ⟨hlen, BAD (BR fun q => h9 q.2.2.2.1)⟩, rfl, trivial⟩, trivial⟩, fun _ h8 => ⟨by repeat' first | with_reducible apply And.intro | exact trivial | exact rfl | assumption, (), ⟨hlen, BAD (BR fun q => h8 q.2.2.1)⟩, rfl, trivial⟩, trivial⟩
      · have h9' : a.p.r3 < (a.g.stakes.l : Int) := h9.2
        have h90 : 0 ≤ a.p.r3 := h9.1
        have hlg := hp.p2.len
        have hli : a.p.r3.toNat < x.gone.length := by omega
        have := hp.p2.at_ a.p.r3.toNat (x.gone.getD a.p.r3.toNat false) (by simp [List.getD, hli])
        rw [show Nat.add x46 0 = a.p.s2.o + a.p.r3.toNat by rw [e46]; show a.p.s2.o + a.p.r3.toNat * 1 + 0 = _; omega]
        exact this
      · rw [q.2.2.2.2] at hb; cases hb
      · have : ¬ a.p.r0 < 0 := h1; omega
      · have : ¬ x34 ≤ a.p.r0 := h4; have : x34 = (a.g.cells.l : Int) := e34; omega
      · have : ¬ a.p.r1 < 2 := h5; omega
      · have : ¬ 1000 < a.p.r1 := h7; omega
theorem s_check : SpecOK Tryz.prog S_check.spec := fun a K ⟨hg, ⟨x, hp⟩, ⟨cs, hc⟩, hm⟩ hq => specD_at (an := [some (la_check a x cs)]) envOK (cwN_ok (fun _ h => cwD_ok s_seats (cwD_ok s_seat h)) 3) (fun _ => g_check a x cs hg hp hc hm) K ⟨hg, ⟨x, hp⟩, ⟨cs, hc⟩, hm⟩ hq
end Go.Proofs.YtdjnipabfbblnaaGreatDoor
end

/- A game's rules: Turn (what is to be shown). -/
section
set_option maxRecDepth 100000
namespace Go.Proofs.YtdjnipabfbblnaaGreatDoor
open Go.Ev
-- keep cdP cdF gmF PH num foldI dnum frm lastC rollZ rollOK inAll lenOK okPos turnC Go.Ev.Sli Go.Ev.HV insAt argP rightP hasC farC stepC okAt twoC truthC W32 runC storeC manyC cells4
def okPos (a : GpA) (x : PX) (cs : List Int) : Prop := lenOK a ∧ inAll cs x.vars a.p.s1.l ∧ (rollZ a.p ∨ rollOK a.g.cells.l a.g.stakes.l a.p x)
set_option linter.unusedSectionVars false
variable [Go.Ev.Frozen Tryz.prog]
noncomputable section
open Classical in
def turnC (a : GpA) (x : PX) (cs ws : List Int) : Int :=
  if ¬ okPos a x cs then -1 else if ¬ rollZ a.p then a.p.r3 else if (a.p.s1.l : Int) ≠ a.g.code.cells then -1 else
  let s := lastC x.vars z49 ws a.g.code.m1
  if s.halt ≠ 1 ∧ s.halt ≠ 2 then -1 else
  let n := if s.halt = 1 then s.mem.getD (a.g.code.cells + 4).toNat 0 else 0
  if (0 ≤ n ∧ n < a.g.stakes.l) ∧ x.gone.getD n.toNat false = false then n else -1
abbrev cellsOf (a : GmA) (cs : List Int) : Prop := Sli (Value.int .i32) 2 a.cells.n a.cells.o a.cells.l a.cells.k a.cells.c cs
abbrev codeOf (s : SA) (ws : List Int) : Prop := Sli (Value.int .i64) 4 s.n s.o s.l s.k s.c ws
def S_turn : SpecD where
  f := 18
  α := GpA
  args a := [.pointer (some ⟨13, 0, none⟩), a.p.v (13 + 11)]
  R a := gmR a.g 13 ++ (a.p.R (13 + 11) 50 ++ globM)
  n := 13 + 14
  pre a := (gmF a.g ∧ cdP a.g.code ∧ 0 ≤ a.g.code.m1 ∧ a.p.s1.l ≤ 1000) ∧ (∃ x, PH a.p x ∧ W32 x.vars) ∧ (∃ cs, cellsOf a.g cs) ∧ ∃ ws, codeOf a.g.code.i1 ws
  outs := [⟨KI, fun a b => ∀ x cs ws, PH a.p x → cellsOf a.g cs → codeOf a.g.code.i1 ws → b.k = turnC a x cs ws, fun _ b => tgI .i64 b.k, fun _ _ => [], fun _ _ => 13 + 14, fun _ _ => []⟩]
  pick _ _ := 0
  find l A := gmK A 13 (lv l 0) fun g q => paK A (13 + 11) (agv (lv l 1)) fun p r => some (⟨g, p⟩, q ++ r)
def G_turn (a : GpA) : Prop := fnW Tryz.prog E0 (cwN (fun c => cwD Tryz.prog S_check (cwP 1 S_run1 (cwD Tryz.prog S_seat c))) 3) [] S_turn.f (S_turn.args a) (mem (S_turn.R a) S_turn.n) (endD Tryz.prog S_turn a)
end
end Go.Proofs.YtdjnipabfbblnaaGreatDoor
end
