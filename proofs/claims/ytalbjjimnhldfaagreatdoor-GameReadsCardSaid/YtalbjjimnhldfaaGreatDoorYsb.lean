/- Whether bytes are the same, two ways out: what is to be shown. -/
import Derived.Test.YtalbjjimnhldfaaGreatDoorYmvP
section
set_option maxRecDepth 100000
namespace Go.Proofs.YtalbjjimnhldfaaGreatDoor
open Go.Ev
-- keep Go.Ev.Sli
noncomputable section
def S_sameB : SpecD where
  f := 21
  α := S2
  args a := [a.a.v 12, a.b.v (12 + 1)]
  R a := [(12, .f a.a.c 5 .gro), (12 + 1, .f a.b.c 5 .gro)]
  n := 12 + 2
  pre a := (∃ xs ys, Sli (Value.int .u8) 1 a.a.n a.a.o a.a.l a.a.k a.a.c xs ∧ Sli (Value.int .u8) 1 a.b.n a.b.o a.b.l a.b.k a.b.c ys) ∧ (a.a.l ≤ 1000000 ∧ a.b.l ≤ 1000000)
  outs := [⟨Unit, fun a _ => ∀ xs ys, Sli (Value.int .u8) 1 a.a.n a.a.o a.a.l a.a.k a.a.c xs → Sli (Value.int .u8) 1 a.b.n a.b.o a.b.l a.b.k a.b.c ys → xs = ys, fun _ _ => .bool true, fun _ _ => [], fun _ _ => 12 + 2, fun _ _ => []⟩,
    ⟨Unit, fun a _ => ∀ xs ys, Sli (Value.int .u8) 1 a.a.n a.a.o a.a.l a.a.k a.a.c xs → Sli (Value.int .u8) 1 a.b.n a.b.o a.b.l a.b.k a.b.c ys → xs ≠ ys, fun _ _ => .bool false, fun _ _ => [], fun _ _ => 12 + 2, fun _ _ => []⟩]
  pick v _ := match v with
    | .bool true => 0
    | _ => 1
  find l A := saK A 12 (lv l 0) fun a r => saK A (12 + 1) (lv l 1) fun b q => some (⟨a, b⟩, r ++ q)
def G_sameB (a : S2) (xs ys : List Int) : Prop := fnW Tryz.prog E0 cw0 [some (la_same a xs ys)] S_sameB.f (S_sameB.args a) (mem (S_sameB.R a) S_sameB.n) (endD Tryz.prog S_sameB a)
end
end Go.Proofs.YtalbjjimnhldfaaGreatDoor
end

/- Whether bytes are the same, two ways out: it is so. -/
set_option maxRecDepth 100000
namespace Go.Proofs.YtalbjjimnhldfaaGreatDoor
open Go.Ev
noncomputable section

end
theorem vc_sameB (a : S2) (xs ys : List Int) : G_sameB a xs ys = (∀ (x0 : Int), x0 = (↑a.1.3 : Int) → ∀ (x1 : Int), x1 = (↑a.2.3 : Int) → (x0 ≠ x1 → ∃ (x2 : Unit), (∀ (x3 x4 : List Int), Sli (Value.int IntKind.u8) (1 : Nat) a.1.1 a.1.2 a.1.3
a.1.4 a.1.5 x3 → Sli (Value.int IntKind.u8) (1 : Nat) a.2.1 a.2.2 a.2.3 a.2.4 a.2.5 x4 → x3 ≠ x4) ∧ Bool.false = Bool.false ∧ True) ∧ (¬x0 ≠ x1 → ∃ (x5 : IL), (((0 : Int) ≤ x5.1 ∧
x5.1 ≤ (↑a.1.3 : Int)) ∧ List.take (Int.toNat x5.1) xs = List.take (Int.toNat x5.1) ys) ∧ (((a.1.1 = a.1.1 ∧ a.1.2 = a.1.2 ∧ a.1.3 = a.1.3 ∧ a.1.4 = a.1.4) ∧ (a.2.1 = a.2.1 ∧ a.2.2
= a.2.2 ∧ a.2.3 = a.2.3 ∧ a.2.4 = a.2.4) ∧ x5.1 = (0 : Int) ∧ True) ∧ ((True ∧ FlatL a.1.5 ∧ a.1.5 = a.1.5) ∧ (True ∧ FlatL a.2.5 ∧ a.2.5 = a.2.5) ∧ True) ∧ True) ∧ ∀ (x6 : IL),
((0 : Int) ≤ x6.1 ∧ x6.1 ≤ (↑a.1.3 : Int)) ∧ List.take (Int.toNat x6.1) xs = List.take (Int.toNat x6.1) ys → ∀ (x7 : Int), x7 = (↑a.1.3 : Int) → (x6.1 < x7 → ((0 : Int) ≤ x6.1 ∧
x6.1 < (↑a.1.3 : Int)) ∧ ∀ (x8 : Nat), x8 = a.1.2 + Int.toNat x6.1 * (1 : Nat) → ∃ (x9 : Int), Rd a.1.5 (Nat.add x8 (0 : Nat)) (Value.int IntKind.u8 x9) ∧ ((0 : Int) ≤ x6.1 ∧ x6.1
< (↑a.2.3 : Int)) ∧ ∀ (x10 : Nat), x10 = a.2.2 + Int.toNat x6.1 * (1 : Nat) → ∃ (x11 : Int), Rd a.2.5 (Nat.add x10 (0 : Nat)) (Value.int IntKind.u8 x11) ∧ (x9 ≠ x11 → (True ∧ True
∧ True ∧ True ∧ True ∧ True ∧ True ∧ True ∧ True ∧ True) ∧ ∃ (x12 : Unit), (∀ (x13 x14 : List Int), Sli (Value.int IntKind.u8) (1 : Nat) a.1.1 a.1.2 a.1.3 a.1.4 a.1.5 x13 → Sli
(Value.int IntKind.u8) (1 : Nat) a.2.1 a.2.2 a.2.3 a.2.4 a.2.5 x14 → x13 ≠ x14) ∧ Bool.false = Bool.false ∧ True) ∧ (¬x9 ≠ x11 → (True ∧ True ∧ True ∧ True ∧ True ∧ True ∧ True ∧
True ∧ True ∧ True) ∧ ∀ (x15 : Int), x15 = IntKind.wrap IntKind.i64 (x6.1 + (1 : Int)) → ∃ (x16 : IL), (((0 : Int) ≤ x16.1 ∧ x16.1 ≤ (↑a.1.3 : Int)) ∧ List.take (Int.toNat x16.1)
xs = List.take (Int.toNat x16.1) ys) ∧ Int.toNat ((↑a.1.3 : Int) - x16.1) < Int.toNat ((↑a.1.3 : Int) - x6.1) ∧ ((a.1.1 = a.1.1 ∧ a.1.2 = a.1.2 ∧ a.1.3 = a.1.3 ∧ a.1.4 = a.1.4) ∧
(a.2.1 = a.2.1 ∧ a.2.2 = a.2.2 ∧ a.2.3 = a.2.3 ∧ a.2.4 = a.2.4) ∧ x16.1 = x15 ∧ True) ∧ ((True ∧ FlatL a.1.5 ∧ a.1.5 = a.1.5) ∧ (True ∧ FlatL a.2.5 ∧ a.2.5 = a.2.5) ∧ True) ∧
True)) ∧ (¬x6.1 < x7 → ∃ (x17 : Unit), (∀ (x18 x19 : List Int), Sli (Value.int IntKind.u8) (1 : Nat) a.1.1 a.1.2 a.1.3 a.1.4 a.1.5 x18 → Sli (Value.int IntKind.u8) (1 : Nat) a.2.1
a.2.2 a.2.3 a.2.4 a.2.5 x19 → x18 = x19) ∧ Bool.true = Bool.true ∧ True))) := by kernel_rfl
theorem g_sameB (a : S2) (xs ys : List Int) (hx : Sli (Value.int .u8) 1 a.a.n a.a.o a.a.l a.a.k a.a.c xs) (hy : Sli (Value.int .u8) 1 a.b.n a.b.o a.b.l a.b.k a.b.c ys) (b1 : a.a.l ≤ 1000000) (b2 : a.b.l ≤ 1000000) : G_sameB a xs ys := by
  have lx := hx.len
  have ly := hy.len
  have fx := hx.flat
  have fy := hy.flat
  rw [vc_sameB]
  intro x0 e0 x1 e1
  refine ⟨fun hne => ⟨(), fun u v hu hv h => ?_, rfl, trivial⟩, fun heq => ?_⟩
  · have := hu.len; have := hv.len; subst h; omega
  have e01 : a.a.l = a.b.l := by omega
  refine ⟨⟨0⟩, ⟨⟨by decide, by simp⟩, by simp⟩, ?_, ?_⟩
  · repeat' first
      | with_reducible apply And.intro
      | exact trivial
      | exact rfl
      | assumption
  rintro ⟨i⟩ ⟨⟨hi0, hi1⟩, ht⟩ x7 e7
  dsimp only at hi0 hi1 ht ⊢
  refine ⟨fun hlt => ?_, fun hge => ?_⟩
  · have h1 : i.toNat < xs.length := by omega
    have h2 : i.toNat < ys.length := by omega
    refine ⟨⟨hi0, by omega⟩, fun p hp => ⟨xs[i.toNat], by rw [hp, Nat.mul_one]; exact hx.at_.get h1, ⟨hi0, by omega⟩, fun q hq => ⟨ys[i.toNat], by rw [hq, Nat.mul_one]; exact hy.at_.get h2, fun hne => ⟨?_, (), fun u v hu hv h => ?_, rfl, trivial⟩, fun hee => ⟨?_, fun z hz => ?_⟩⟩⟩⟩
    · repeat' first
        | with_reducible apply And.intro
        | exact trivial
        | exact rfl
    · exfalso
      have e1 := Sli.uniqI hu hx
      have e2 := Sli.uniqI hv hy
      subst e1 e2
      apply hne
      subst h
      rfl
    · repeat' first
        | with_reducible apply And.intro
        | exact trivial
        | exact rfl
    · rw [wrap_i64] at hz
      have hz' : z.toNat = i.toNat + 1 := by omega
      refine ⟨⟨z⟩, ⟨⟨by show 0 ≤ z; omega, by show z ≤ _; omega⟩, by (show xs.take z.toNat = ys.take z.toNat); rw [hz']; exact take_succ_eq ht h1 h2 (Decidable.not_not.1 hee)⟩, by show ((a.a.l : Int) - z).toNat < ((a.a.l : Int) - i).toNat; omega, ?_⟩
      repeat' first
        | with_reducible apply And.intro
        | exact trivial
        | exact rfl
        | assumption
  · refine ⟨(), fun u v hu hv => ?_, rfl, trivial⟩
    have e1 := Sli.uniqI hu hx
    have e2 := Sli.uniqI hv hy
    subst e1 e2
    rw [List.take_of_length_le (by omega), List.take_of_length_le (by omega)] at ht
    exact ht
theorem s_sameB : SpecOK Tryz.prog S_sameB.spec := fun a K hp hq => by
  obtain ⟨⟨xs, ys, hx, hy⟩, b1, b2⟩ := hp
  exact specD_at (an := [some (la_same a xs ys)]) envOK cw0_ok (fun _ => g_sameB a xs ys hx hy b1 b2) K ⟨⟨xs, ys, hx, hy⟩, b1, b2⟩ hq
end Go.Proofs.YtalbjjimnhldfaaGreatDoor
