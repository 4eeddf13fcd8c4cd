/- The document's numbers as bytes: what is told of baizeref01.Num and its like (what is to be shown). -/
import Derived.Test.YtalbjjimnhldfaaGreatDoorEv14
import Derived.Test.YtalbjjimnhldfaaGreatDoorEnv
section
set_option maxRecDepth 100000
namespace Go.Proofs.YtalbjjimnhldfaaGreatDoor
open Go.Ev
-- keep num foldI
/-- A number's bytes. -/
def num (n : Nat) : List Int := if n < 128 then [(n : Int)] else ((128 + n % 128 : Nat) : Int) :: num (n / 128)
/-- A number with a sign, as one without. -/
def foldI (n : Int) : Int := if n < 0 then 2 * (-(n + 1)) + 1 else 2 * n
noncomputable section
def cw0 : CW := fun _ _ _ _ => False
structure Byts where
  c : List Value
  k : Nat
def S_num : SpecD where
  f := 55
  α := Int
  args a := [tgI .u64 a]
  R _ := []
  n := 12
  pre a := (0 ≤ a ∧ a < 18446744073709551616) ∧ True
  outs := [⟨Byts, fun a b => HE .u8 b.c (num a.toNat) ∧ b.c.length ≤ b.k, fun _ b => tgS 12 0 b.c.length b.k, fun _ b => [(12, .f b.c 5 (.grown b.k))], fun _ _ => 12 + 1, fun v _ => renS 12 v⟩]
  pick _ _ := 0
  find l _ := some (iv (lv l 0), [])
structure NumL where
  n : Int
  nb : Bool
  l : Nat
  k : Nat
  c : List Value
def la_num (n0 : Int) : LA where
  α := NumL
  at_ a := ⟨[(0, tgI .u64 a.n), (3, mnS 12 a.nb 0 a.l a.k)], [(12, .f a.c 5 (.grown a.k))], 12 + 1⟩
  J a := (0 ≤ a.n ∧ a.n < 18446744073709551616) ∧ ∃ xs, HE .u8 a.c xs ∧ a.l = xs.length ∧ xs.length ≤ a.k ∧ xs ++ num a.n.toNat = num n0.toNat ∧ (a.nb = true → xs = [] ∧ a.k = 0)
  μ a := a.n.toNat
  ren s := renS 12 (tv s 3)
def G_num (a : Int) : Prop := fnW Tryz.prog E0 cw0 [some (la_num a)] S_num.f (S_num.args a) (mem (S_num.R a) S_num.n) (endD Tryz.prog S_num a)
def S_fold : SpecD where
  f := 88
  α := Int
  args a := [tgI .i64 a]
  R _ := []
  n := 12
  pre a := (-9223372036854775808 ≤ a ∧ a ≤ 9223372036854775807) ∧ True
  outs := [⟨Unit, fun _ _ => True, fun a _ => tgI .u64 (foldI a), fun _ _ => [], fun _ _ => 12, fun _ _ => []⟩]
  pick _ _ := 0
  find l _ := some (iv (lv l 0), [])
def G_fold (a : Int) : Prop := fnW Tryz.prog E0 cw0 [] S_fold.f (S_fold.args a) (mem (S_fold.R a) S_fold.n) (endD Tryz.prog S_fold a)
def S_signed : SpecD where
  f := 57
  α := Int
  args a := [tgI .i64 a]
  R _ := []
  n := 12
  pre a := (-9223372036854775808 ≤ a ∧ a ≤ 9223372036854775807) ∧ True
  outs := [⟨Byts, fun a b => HE .u8 b.c (num (foldI a).toNat) ∧ b.c.length ≤ b.k, fun _ b => tgS 12 0 b.c.length b.k, fun _ b => [(12, .f b.c 5 (.grown b.k))], fun _ _ => 12 + 1, fun v _ => renS 12 v⟩]
  pick _ _ := 0
  find l _ := some (iv (lv l 0), [])
def G_signed (a : Int) : Prop := fnW Tryz.prog E0 (cwD Tryz.prog S_num (cwD Tryz.prog S_fold cw0)) [] S_signed.f (S_signed.args a) (mem (S_signed.R a) S_signed.n) (endD Tryz.prog S_signed a)
end
end Go.Proofs.YtalbjjimnhldfaaGreatDoor
end

/- The document's numbers as bytes: what is told of baizeref01.Num and its like is so. -/
section
set_option maxRecDepth 100000
namespace Go.Proofs.YtalbjjimnhldfaaGreatDoor
open Go.Ev
theorem vc_num (a : Int) : G_num a = (∃ (x0 : NumL), (((0 : Int) ≤ x0.1 ∧ x0.1 < (18446744073709551616 : Int)) ∧ ∃ (x1 : List Int), HE IntKind.u8 x0.5 x1 ∧ x0.3 = List.length x1 ∧ List.length x1 ≤ x0.4 ∧ x1 ++ num
(Int.toNat x0.1) = num (Int.toNat a) ∧ (x0.2 = Bool.true → x1 = [] ∧ x0.4 = (0 : Nat))) ∧ ((x0.1 = a ∧ (x0.2 = Bool.true ∧ x0.3 = (0 : Nat) ∧ x0.4 = (0 : Nat)) ∧ True) ∧ ((FlatL
x0.5 ∧ True) ∧ True) ∧ True) ∧ ∀ (x2 : NumL), (((0 : Int) ≤ x2.1 ∧ x2.1 < (18446744073709551616 : Int)) ∧ ∃ (x3 : List Int), HE IntKind.u8 x2.5 x3 ∧ x2.3 = List.length x3 ∧
List.length x3 ≤ x2.4 ∧ x3 ++ num (Int.toNat x2.1) = num (Int.toNat a) ∧ (x2.2 = Bool.true → x3 = [] ∧ x2.4 = (0 : Nat))) → ((128 : Int) ≤ x2.1 → (128 : Int) ≠ (0 : Int) ∧ ∀ (x4 :
Int), x4 = Int.tmod x2.1 (128 : Int) → ∀ (x5 : Int), x5 = IntKind.wrap IntKind.u64 ((128 : Int) + x4) → ∀ (x6 : Int), x6 = IntKind.wrap IntKind.u8 x5 → (x2.2 = Bool.true → (1 :
Nat) ≤ List.length [Value.iface (1000000007 : Nat) (Value.int IntKind.u8 x6)] ∧ ∀ (x7 : List Value), x7 = lwin [Value.iface (1000000007 : Nat) (Value.int IntKind.u8 x6)] (0 : Nat)
(1 : Nat) → ((1 : Nat) = (0 : Nat) → (128 : Int) ≠ (0 : Int) ∧ ∀ (x8 : Int), x8 = IntKind.wrap IntKind.u64 (Int.tdiv x2.1 (128 : Int)) → ∃ (x9 : NumL), (((0 : Int) ≤ x9.1 ∧ x9.1 <
(18446744073709551616 : Int)) ∧ ∃ (x10 : List Int), HE IntKind.u8 x9.5 x10 ∧ x9.3 = List.length x10 ∧ List.length x10 ≤ x9.4 ∧ x10 ++ num (Int.toNat x9.1) = num (Int.toNat a) ∧
(x9.2 = Bool.true → x10 = [] ∧ x9.4 = (0 : Nat))) ∧ Int.toNat x9.1 < Int.toNat x2.1 ∧ (x9.1 = x8 ∧ (x9.2 = Bool.true ∧ x9.3 = (0 : Nat) ∧ x9.4 = (0 : Nat)) ∧ True) ∧ ((FlatL x9.5 ∧
True) ∧ True) ∧ True) ∧ ((1 : Nat) ≠ (0 : Nat) → Few (1 : Nat) (1 : Nat) ∧ (128 : Int) ≠ (0 : Int) ∧ ∀ (x11 : Int), x11 = IntKind.wrap IntKind.u64 (Int.tdiv x2.1 (128 : Int)) → ∃
(x12 : NumL), (((0 : Int) ≤ x12.1 ∧ x12.1 < (18446744073709551616 : Int)) ∧ ∃ (x13 : List Int), HE IntKind.u8 x12.5 x13 ∧ x12.3 = List.length x13 ∧ List.length x13 ≤ x12.4 ∧ x13 ++
num (Int.toNat x12.1) = num (Int.toNat a) ∧ (x12.2 = Bool.true → x13 = [] ∧ x12.4 = (0 : Nat))) ∧ Int.toNat x12.1 < Int.toNat x2.1 ∧ (x12.1 = x11 ∧ (x12.2 = Bool.false ∧ (0 : Nat)
= (0 : Nat) ∧ x12.3 = (1 : Nat) ∧ x12.4 = (1 : Nat)) ∧ True) ∧ ((x12.4 = (1 : Nat) ∧ FlatL x12.5 ∧ x12.5 = x7) ∧ True) ∧ True)) ∧ (x2.2 = Bool.false → (1 : Nat) ≤ List.length
[Value.iface (1000000007 : Nat) (Value.int IntKind.u8 x6)] ∧ ∀ (x14 : List Value), x14 = lwin [Value.iface (1000000007 : Nat) (Value.int IntKind.u8 x6)] (0 : Nat) (1 : Nat) → ((0 :
Nat) = (0 : Nat) ∧ List.length x2.5 = x2.3 * (1 : Nat) ∧ x2.4 = x2.4 ∧ x2.3 ≤ x2.4 ∧ Few (x2.3 + (1 : Nat)) (1 : Nat) ∧ lall oneK x14 = Bool.true) ∧ ∀ (x15 x16 : Nat), x15 = x2.3 +
(1 : Nat) → (x16 = if x15 ≤ NumL.k x2 then x2.4 else x15) → (128 : Int) ≠ (0 : Int) ∧ ∀ (x17 : Int), x17 = IntKind.wrap IntKind.u64 (Int.tdiv x2.1 (128 : Int)) → ∃ (x18 : NumL),
(((0 : Int) ≤ x18.1 ∧ x18.1 < (18446744073709551616 : Int)) ∧ ∃ (x19 : List Int), HE IntKind.u8 x18.5 x19 ∧ x18.3 = List.length x19 ∧ List.length x19 ≤ x18.4 ∧ x19 ++ num
(Int.toNat x18.1) = num (Int.toNat a) ∧ (x18.2 = Bool.true → x19 = [] ∧ x18.4 = (0 : Nat))) ∧ Int.toNat x18.1 < Int.toNat x2.1 ∧ (x18.1 = x17 ∧ (x18.2 = Bool.false ∧ (0 : Nat) = (0
: Nat) ∧ x18.3 = x15 ∧ x18.4 = x16) ∧ True) ∧ ((x18.4 = x16 ∧ FlatL x18.5 ∧ x18.5 = x2.5 ++ x14) ∧ True) ∧ True)) ∧ (¬(128 : Int) ≤ x2.1 → ∀ (x20 : Int), x20 = IntKind.wrap
IntKind.u8 x2.1 → (x2.2 = Bool.true → (1 : Nat) ≤ List.length [Value.iface (1000000007 : Nat) (Value.int IntKind.u8 x20)] ∧ ∀ (x21 : List Value), x21 = lwin [Value.iface
(1000000007 : Nat) (Value.int IntKind.u8 x20)] (0 : Nat) (1 : Nat) → ((1 : Nat) = (0 : Nat) → ∃ (x22 : Byts), (HE IntKind.u8 x22.1 (num (Int.toNat a)) ∧ List.length x22.1 ≤ x22.2)
∧ False ∧ (FlatL x22.1 ∧ True) ∧ True) ∧ ((1 : Nat) ≠ (0 : Nat) → Few (1 : Nat) (1 : Nat) ∧ ∃ (x23 : Byts), (HE IntKind.u8 x23.1 (num (Int.toNat a)) ∧ List.length x23.1 ≤ x23.2) ∧
((0 : Nat) = (0 : Nat) ∧ List.length x23.1 = (1 : Nat) ∧ x23.2 = (1 : Nat)) ∧ (x23.2 = (1 : Nat) ∧ FlatL x23.1 ∧ x23.1 = x21) ∧ True)) ∧ (x2.2 = Bool.false → (1 : Nat) ≤
List.length [Value.iface (1000000007 : Nat) (Value.int IntKind.u8 x20)] ∧ ∀ (x24 : List Value), x24 = lwin [Value.iface (1000000007 : Nat) (Value.int IntKind.u8 x20)] (0 : Nat) (1
: Nat) → ((0 : Nat) = (0 : Nat) ∧ List.length x2.5 = x2.3 * (1 : Nat) ∧ x2.4 = x2.4 ∧ x2.3 ≤ x2.4 ∧ Few (x2.3 + (1 : Nat)) (1 : Nat) ∧ lall oneK x24 = Bool.true) ∧ ∀ (x25 x26 :
Nat), x25 = x2.3 + (1 : Nat) → (x26 = if x25 ≤ NumL.k x2 then x2.4 else x25) → ∃ (x27 : Byts), (HE IntKind.u8 x27.1 (num (Int.toNat a)) ∧ List.length x27.1 ≤ x27.2) ∧ ((0 : Nat) =
(0 : Nat) ∧ List.length x27.1 = x25 ∧ x27.2 = x26) ∧ (x27.2 = x26 ∧ FlatL x27.1 ∧ x27.1 = x2.5 ++ x24) ∧ True))) := by kernel_rfl
theorem vc_fold (a : Int) : G_fold a = ((a < (0 : Int) → ∀ (x0 : Int), x0 = IntKind.wrap IntKind.i64 (a + (1 : Int)) → ∀ (x1 : Int), x1 = IntKind.wrap IntKind.i64 ((0 : Int) - x0) → ∀ (x2 : Int), x2 = IntKind.wrap
IntKind.u64 x1 → ∀ (x3 : Int), x3 = IntKind.wrap IntKind.u64 ((2 : Int) * x2) → ∀ (x4 : Int), x4 = IntKind.wrap IntKind.u64 (x3 + (1 : Int)) → ∃ (x5 : Unit), True ∧ foldI a = x4 ∧
True) ∧ (¬a < (0 : Int) → ∀ (x6 : Int), x6 = IntKind.wrap IntKind.u64 a → ∀ (x7 : Int), x7 = IntKind.wrap IntKind.u64 ((2 : Int) * x6) → ∃ (x8 : Unit), True ∧ foldI a = x7 ∧ True)) := by kernel_rfl
theorem vc_signed (a : Int) : G_signed a = ((True ∧ ((-9223372036854775808 : Int) ≤ a ∧ a ≤ (9223372036854775807 : Int)) ∧ True) ∧ ((a = a ∧ True) ∧ True) ∧ (∀ (x0 : Unit), True → (True ∧ ((0 : Int) ≤ foldI a ∧ foldI a <
(18446744073709551616 : Int)) ∧ True) ∧ ((foldI a = foldI a ∧ True) ∧ True) ∧ (∀ (x1 : Byts), HE IntKind.u8 x1.1 (num (Int.toNat (foldI a))) ∧ List.length x1.1 ≤ x1.2 → ∃ (x2 :
Byts), (HE IntKind.u8 x2.1 (num (Int.toNat (foldI a))) ∧ List.length x2.1 ≤ x2.2) ∧ ((0 : Nat) = (0 : Nat) ∧ List.length x2.1 = List.length x1.1 ∧ x2.2 = x1.2) ∧ (x2.2 = x1.2 ∧
FlatL x2.1 ∧ x2.1 = x1.1) ∧ True) ∧ True) ∧ True) := by kernel_rfl
theorem cw0_ok : CwOK Tryz.prog cw0 := fun _ _ _ _ h => h.elim
theorem wrap_u8 (x : Int) : IntKind.wrap .u8 x = x % 256 := by simp [IntKind.wrap, IntKind.bits, IntKind.signed]
theorem wrap_u64 (x : Int) : IntKind.wrap .u64 x = x % 18446744073709551616 := by simp [IntKind.wrap, IntKind.bits, IntKind.signed]
theorem wrap_i64 (x : Int) : IntKind.wrap .i64 x = (x + 9223372036854775808) % 18446744073709551616 - 9223372036854775808 := by simp [IntKind.wrap, IntKind.bits, IntKind.signed]; omega
theorem wrap_i32 (x : Int) : IntKind.wrap .i32 x = (x + 2147483648) % 4294967296 - 2147483648 := by simp [IntKind.wrap, IntKind.bits, IntKind.signed]; omega
theorem num_small {n : Nat} (h : n < 128) : num n = [(n : Int)] := by rw [num, if_pos h]
theorem num_big {n : Nat} (h : ¬ n < 128) : num n = ((128 + n % 128 : Nat) : Int) :: num (n / 128) := by rw [num, if_neg h]
theorem num_len : ∀ (k n : Nat), n < 128 ^ (k + 1) → (num n).length ≤ k + 1 := by
  intro k
  induction k with
  | zero => intro n h; rw [num_small (by omega)]; simp
  | succ k ih =>
    intro n h
    by_cases hn : n < 128
    · rw [num_small hn]; simp
    · rw [num_big hn]
      have := ih (n / 128) (by rw [Nat.pow_succ] at h; exact Nat.div_lt_of_lt_mul (by omega))
      simp; omega
theorem num_len10 {n : Nat} (h : n < 18446744073709551616) : (num n).length ≤ 10 := num_len 9 n (Nat.lt_of_lt_of_le h (by decide))
theorem num_pos (n : Nat) : 0 < (num n).length := by
  by_cases h : n < 128
  · rw [num_small h]; simp
  · rw [num_big h]; simp
theorem num_step {n r m b q : Int} (h0 : 0 ≤ n) (h1 : n < 18446744073709551616) (hge : 128 ≤ n) (hr : r = Int.tmod n 128) (hm : m = IntKind.wrap .u64 (128 + r)) (hb : b = IntKind.wrap .u8 m) (hq : q = IntKind.wrap .u64 (Int.tdiv n 128)) :
    num n.toNat = b :: num q.toNat ∧ 0 ≤ q ∧ q < 18446744073709551616 ∧ q.toNat < n.toNat := by
  rw [Int.tmod_eq_emod_of_nonneg h0] at hr
  rw [Int.tdiv_eq_ediv_of_nonneg h0, wrap_u64] at hq
  rw [wrap_u64] at hm
  rw [wrap_u8] at hb
  refine ⟨?_, by omega, by omega, by omega⟩
  rw [num_big (by omega), show ((128 + n.toNat % 128 : Nat) : Int) = b by omega, show n.toNat / 128 = q.toNat by omega]
theorem num_last {n b : Int} (h0 : 0 ≤ n) (hlt : ¬ 128 ≤ n) (hb : b = IntKind.wrap .u8 n) : num n.toNat = [b] := by
  rw [wrap_u8] at hb
  rw [num_small (by omega), show ((n.toNat : Nat) : Int) = b by omega]
theorem oneK_one (k : IntKind) (z : Int) : lall oneK [tgI k z] = true := rfl
theorem lwin_one (v : Value) : lwin [v] 0 1 = [v] := rfl
theorem g_num (a : Int) (hp : 0 ≤ a ∧ a < 18446744073709551616) : G_num a := by
  rw [vc_num]
  have h10 := num_len10 (n := a.toNat) (by omega)
  refine ⟨⟨a, true, 0, 0, []⟩, ⟨⟨hp.1, hp.2⟩, [], .nil, rfl, Nat.le_refl _, rfl, fun _ => ⟨rfl, rfl⟩⟩, ⟨⟨rfl, ⟨rfl, rfl, rfl⟩, trivial⟩, ⟨⟨flatL_nil, trivial⟩, trivial⟩, trivial⟩, ?_⟩
  rintro ⟨n, nb, l, k, c⟩ ⟨⟨hn0, hn1⟩, xs, hx, hl, hk, hs, hb⟩
  dsimp only at hn0 hn1 hx hl hk hs hb ⊢
  have hlen := hx.len
  have hxs : xs.length ≤ 10 := by rw [← hs] at h10; simp at h10; omega
  refine ⟨fun hge => ⟨by decide, fun r hr m hm b hbb => ⟨fun ht => ⟨by simp, fun ys hys => ⟨fun h => by omega, fun _ => ⟨by unfold Few; omega, by decide, fun q hq => ?_⟩⟩⟩, fun hf => ⟨by simp, fun ys hys => ⟨⟨rfl, by omega, rfl, by omega, by unfold Few; omega, ?_⟩, fun l' k' hl' hk' => ⟨by decide, fun q hq => ?_⟩⟩⟩⟩⟩, fun hlt b hbb => ⟨fun ht => ⟨by simp, fun ys hys => ⟨fun h => by omega, fun _ => ⟨by unfold Few; omega, ?_⟩⟩⟩, fun hf => ⟨by simp, fun ys hys => ⟨⟨rfl, by omega, rfl, by omega, by unfold Few; omega, ?_⟩, fun l' k' hl' hk' => ?_⟩⟩⟩⟩
  · obtain ⟨e1, e2, e3, e4⟩ := num_step hn0 hn1 hge hr hm hbb hq
    obtain ⟨rfl, rfl⟩ := hb ht
    rw [lwin_one] at hys
    have hy : HE .u8 ys [b] := by rw [hys]; exact .one
    exact ⟨⟨q, false, 1, 1, ys⟩, ⟨⟨e2, e3⟩, [b], hy, rfl, Nat.le_refl _, by rw [← hs, e1]; rfl, fun h => by cases h⟩, e4, ⟨rfl, ⟨rfl, rfl, rfl, rfl⟩, trivial⟩, ⟨⟨rfl, hy.flat, rfl⟩, trivial⟩, trivial⟩
  · rw [hys, lwin_one]; exact oneK_one _ _
  · obtain ⟨e1, e2, e3, e4⟩ := num_step hn0 hn1 hge hr hm hbb hq
    rw [lwin_one] at hys
    subst hys
    have hy := hx.snoc (z := b)
    exact ⟨⟨q, false, l', k', _⟩, ⟨⟨e2, e3⟩, xs ++ [b], hy, by simp; omega, by (rw [hk']; simp; split <;> omega), by rw [← hs, e1]; simp, fun h => by cases h⟩, e4, ⟨rfl, ⟨rfl, rfl, rfl, rfl⟩, trivial⟩, ⟨⟨rfl, hy.flat, rfl⟩, trivial⟩, trivial⟩
  · obtain ⟨rfl, rfl⟩ := hb ht
    have e1 := num_last hn0 hlt hbb
    rw [lwin_one] at hys
    have hy : HE .u8 ys [b] := by rw [hys]; exact .one
    rw [e1] at hs
    exact ⟨⟨ys, 1⟩, ⟨by rw [← hs]; exact hy, by have := hy.len; simp at this; show ys.length ≤ 1; omega⟩, ⟨rfl, by have := hy.len; simpa using this, rfl⟩, ⟨rfl, hy.flat, rfl⟩, trivial⟩
  · rw [hys, lwin_one]; exact oneK_one _ _
  · have e1 := num_last hn0 hlt hbb
    rw [lwin_one] at hys
    subst hys
    have hy := hx.snoc (z := b)
    rw [e1] at hs
    have hl2 := hy.len
    simp at hl2
    exact ⟨⟨_, k'⟩, ⟨by rw [← hs]; exact hy, by (rw [hk']; simp; split <;> omega)⟩, ⟨rfl, by simp; omega, rfl⟩, ⟨rfl, hy.flat, rfl⟩, trivial⟩
theorem s_num : SpecOK Tryz.prog S_num.spec := fun a => specD_at (an := [some (la_num a)]) envOK cw0_ok fun hp => g_num a hp.1
theorem g_fold (a : Int) (hp : -9223372036854775808 ≤ a ∧ a ≤ 9223372036854775807) : G_fold a := by
  rw [vc_fold]
  refine ⟨fun h x0 e0 x1 e1 x2 e2 x3 e3 x4 e4 => ⟨(), trivial, ?_, trivial⟩, fun h x0 e0 x1 e1 => ⟨(), trivial, ?_, trivial⟩⟩
  · rw [wrap_i64] at e0 e1; rw [wrap_u64] at e2 e3 e4
    unfold foldI; rw [if_pos h]; omega
  · rw [wrap_u64] at e0 e1
    unfold foldI; rw [if_neg h]; omega
theorem s_fold : SpecOK Tryz.prog S_fold.spec := fun a => specD_at (an := []) envOK cw0_ok fun hp => g_fold a hp.1
theorem fold_in {a : Int} (hp : -9223372036854775808 ≤ a ∧ a ≤ 9223372036854775807) : 0 ≤ foldI a ∧ foldI a < 18446744073709551616 := by
  unfold foldI; split <;> omega
theorem g_signed (a : Int) (hp : -9223372036854775808 ≤ a ∧ a ≤ 9223372036854775807) : G_signed a := by
  rw [vc_signed]
  exact ⟨⟨trivial, hp, trivial⟩, ⟨⟨rfl, trivial⟩, trivial⟩, fun _ _ => ⟨⟨trivial, fold_in hp, trivial⟩, ⟨⟨rfl, trivial⟩, trivial⟩, fun b hb => ⟨⟨b.c, b.k⟩, hb, ⟨rfl, rfl, rfl⟩, ⟨rfl, hb.1.flat, rfl⟩, trivial⟩, trivial⟩, trivial⟩
theorem s_signed : SpecOK Tryz.prog S_signed.spec := fun a => specD_at (an := []) envOK (cwD_ok s_num (cwD_ok s_fold cw0_ok)) fun hp => g_signed a hp.1
end Go.Proofs.YtalbjjimnhldfaaGreatDoor
end

/- Positions: what is told of Cut and Clone (what is to be shown). -/
section
set_option maxRecDepth 100000
namespace Go.Proofs.YtalbjjimnhldfaaGreatDoor
open Go.Ev
-- keep Go.Ev.Sli PH
/-- A slice's parts. -/
structure SA where
  n : Bool
  o : Nat
  l : Nat
  k : Nat
  c : List Value
/-- A position's parts. -/
structure PA where
  s1 : SA
  s2 : SA
  s3 : SA
  r0 : Int
  r1 : Int
  r2 : Int
  r3 : Int
  r4 : Int
/-- What a position holds. -/
structure PX where
  vars : List Int
  gone : List Bool
  tips : List Int
structure PH (a : PA) (x : PX) : Prop where
  p1 : Sli (Value.int .i32) 1 a.s1.n a.s1.o a.s1.l a.s1.k a.s1.c x.vars
  p2 : Sli Value.bool 1 a.s2.n a.s2.o a.s2.l a.s2.k a.s2.c x.gone
  p3 : Sli (Value.int .u8) 8 a.s3.n a.s3.o a.s3.l a.s3.k a.s3.c x.tips
structure RW where
  k : Nat
  c : List Value
noncomputable section
abbrev SA.v (a : SA) (i : Nat) : Value := mnS i a.n a.o a.l a.k
def saOf (A : AW) (v : Value) : SA := ⟨(slOf v).nb, (slOf v).o, (slOf v).l, (slOf v).c, rowV A v⟩
abbrev rolls (a : PA) : List Value := [tgI .i64 a.r0, tgI .i64 a.r1, tgI .i64 a.r2, tgI .i64 a.r3, tgI .u64 a.r4]
abbrev PA.v (a : PA) (i : Nat) : Value := .agg ⟨a.s1.v i :: a.s2.v (i + 1) :: a.s3.v (i + 2) :: rolls a⟩
abbrev PA.R (a : PA) (i : Nat) (e : TypeId) : List (Nat × PO) := [(i, .f a.s1.c 21 .gro), (i + 1, .f a.s2.c 4 .gro), (i + 2, .f a.s3.c e .gro)]
def paOf (A : AW) (l : List Value) : PA := ⟨saOf A (lv l 0), saOf A (lv l 1), saOf A (lv l 2), iv (lv l 3), iv (lv l 4), iv (lv l 5), iv (lv l 6), iv (lv l 7)⟩
def paN (i : Nat) (l : List Value) : List (Nat × Nat) := renS i (lv l 0) ++ (renS (i + 1) (lv l 1) ++ renS (i + 2) (lv l 2))
def S_cli32 : SpecD where
  f := 48
  α := SA
  args a := [a.v 12]
  R a := [(12, .f a.c 21 .gro)]
  n := 12 + 1
  pre a := (∃ xs, Sli (Value.int .i32) 1 a.n a.o a.l a.k a.c xs) ∧ a.l ≤ 100
  outs := [⟨RW, fun a b => ∀ xs, Sli (Value.int .i32) 1 a.n a.o a.l a.k a.c xs → Sli (Value.int .i32) 1 a.n 0 a.l b.k b.c xs, fun a b => mnS (12 + 1) a.n 0 a.l b.k, fun _ b => [(12 + 1, .f b.c 21 (.grown b.k))], fun _ _ => 12 + 2, fun v _ => renS (12 + 1) v⟩]
  pick _ _ := 0
  find l A := some (saOf A (lv l 0), renS 12 (lv l 0))
def G_cli32 (a : SA) : Prop := fnW Tryz.prog E0 cw0 [] S_cli32.f (S_cli32.args a) (mem (S_cli32.R a) S_cli32.n) (endD Tryz.prog S_cli32 a)
def S_clbool : SpecD where
  f := 49
  α := SA
  args a := [a.v 12]
  R a := [(12, .f a.c 4 .gro)]
  n := 12 + 1
  pre a := (∃ xs, Sli (Value.bool) 1 a.n a.o a.l a.k a.c xs) ∧ a.l ≤ 100
  outs := [⟨RW, fun a b => ∀ xs, Sli (Value.bool) 1 a.n a.o a.l a.k a.c xs → Sli (Value.bool) 1 a.n 0 a.l b.k b.c xs, fun a b => mnS (12 + 1) a.n 0 a.l b.k, fun _ b => [(12 + 1, .f b.c 4 (.grown b.k))], fun _ _ => 12 + 2, fun v _ => renS (12 + 1) v⟩]
  pick _ _ := 0
  find l A := some (saOf A (lv l 0), renS 12 (lv l 0))
def G_clbool (a : SA) : Prop := fnW Tryz.prog E0 cw0 [] S_clbool.f (S_clbool.args a) (mem (S_clbool.R a) S_clbool.n) (endD Tryz.prog S_clbool a)
def S_cldig : SpecD where
  f := 39
  α := SA
  args a := [a.v 12]
  R a := [(12, .f a.c 29 .gro)]
  n := 12 + 1
  pre a := (∃ xs, Sli (Value.int .u8) 8 a.n a.o a.l a.k a.c xs) ∧ a.l ≤ 100
  outs := [⟨RW, fun a b => ∀ xs, Sli (Value.int .u8) 8 a.n a.o a.l a.k a.c xs → Sli (Value.int .u8) 8 a.n 0 a.l b.k b.c xs, fun a b => mnS (12 + 1) a.n 0 a.l b.k, fun _ b => [(12 + 1, .f b.c 29 (.grown b.k))], fun _ _ => 12 + 2, fun v _ => renS (12 + 1) v⟩]
  pick _ _ := 0
  find l A := some (saOf A (lv l 0), renS 12 (lv l 0))
def G_cldig (a : SA) : Prop := fnW Tryz.prog E0 cw0 [] S_cldig.f (S_cldig.args a) (mem (S_cldig.R a) S_cldig.n) (endD Tryz.prog S_cldig a)
def S_cut : SpecD where
  f := 25
  α := PA
  args a := [a.v 12]
  R a := a.R 12 29
  n := 12 + 3
  pre a := (∃ x, PH a x) ∧ True
  outs := [⟨Unit, fun _ _ => True, fun a _ => .agg ⟨mnS 12 a.s1.n a.s1.o (min a.s1.l 70) a.s1.k :: mnS (12 + 1) a.s2.n a.s2.o (min a.s2.l 10) a.s2.k :: mnS (12 + 2) a.s3.n a.s3.o (min a.s3.l 10) a.s3.k :: rolls a⟩, fun _ _ => [], fun _ _ => 12 + 3, fun _ _ => []⟩]
  pick _ _ := 0
  find l A := some (paOf A (agv (lv l 0)), paN 12 (agv (lv l 0)))
def G_cut (a : PA) : Prop := fnW Tryz.prog E0 cw0 [] S_cut.f (S_cut.args a) (mem (S_cut.R a) S_cut.n) (endD Tryz.prog S_cut a)
def cwCl : CW := cwD Tryz.prog S_cli32 (cwD Tryz.prog S_clbool (cwD Tryz.prog S_cldig cw0))
structure PB where
  b1 : RW
  b2 : RW
  b3 : RW
def PB.pa (b : PB) (a : PA) : PA := ⟨⟨a.s1.n, 0, a.s1.l, b.b1.k, b.b1.c⟩, ⟨a.s2.n, 0, a.s2.l, b.b2.k, b.b2.c⟩, ⟨a.s3.n, 0, a.s3.l, b.b3.k, b.b3.c⟩, a.r0, a.r1, a.r2, a.r3, a.r4⟩
def S_clone : SpecD where
  f := 14
  α := PA
  args a := [a.v 12]
  R a := a.R 12 29
  n := 12 + 3
  pre a := (∃ x, PH a x) ∧ (a.s1.l ≤ 100 ∧ a.s2.l ≤ 100 ∧ a.s3.l ≤ 100)
  outs := [⟨PB, fun a b => ∀ x, PH a x → PH (b.pa a) x, fun a b => .agg ⟨mnS (12 + 3) a.s1.n 0 a.s1.l b.b1.k :: mnS (12 + 4) a.s2.n 0 a.s2.l b.b2.k :: mnS (12 + 5) a.s3.n 0 a.s3.l b.b3.k :: rolls a⟩,
    fun _ b => [(12 + 3, .f b.b1.c 21 (.grown b.b1.k)), (12 + 4, .f b.b2.c 4 (.grown b.b2.k)), (12 + 5, .f b.b3.c 29 (.grown b.b3.k))], fun _ _ => 12 + 6, fun v _ => paN (12 + 3) (agv v)⟩]
  pick _ _ := 0
  find l A := some (paOf A (agv (lv l 0)), paN 12 (agv (lv l 0)))
def G_clone (a : PA) : Prop := fnW Tryz.prog E0 cwCl [] S_clone.f (S_clone.args a) (mem (S_clone.R a) S_clone.n) (endD Tryz.prog S_clone a)
end
end Go.Proofs.YtalbjjimnhldfaaGreatDoor
end

/- Positions: what is told of Cut and Clone is so. -/
set_option maxRecDepth 100000
namespace Go.Proofs.YtalbjjimnhldfaaGreatDoor
open Go.Ev
noncomputable section
def W_G_cut_0 : PA → Option AO := fun (a : PA) => Option.some (AO.row a.2.5 (4 : Nat) Md.gro)
def W_G_cut_1 : PA → Option AO := fun (a : PA) => Option.some (AO.row a.3.5 (29 : Nat) Md.gro)
def W_G_clone_0 : PA → Option AO := fun (a : PA) => Option.some (AO.row (Array.toList (Array.mk [Value.iface (1000000009 : Nat) (Value.agg (Array.mk [Value.bool a.1.1, Value.slice (Option.some (Addr.mk (12 : Nat)
a.1.2 Option.none)) a.1.3 a.1.4])), Value.iface (1000000009 : Nat) (Value.agg (Array.mk [Value.bool a.2.1, Value.slice (Option.some (Addr.mk (13 : Nat) a.2.2 Option.none)) a.2.3
a.2.4])), Value.iface (1000000009 : Nat) (Value.agg (Array.mk [Value.bool a.3.1, Value.slice (Option.some (Addr.mk (14 : Nat) a.3.2 Option.none)) a.3.3 a.3.4])), Value.iface
(1000000007 : Nat) (Value.int IntKind.i64 a.4), Value.iface (1000000007 : Nat) (Value.int IntKind.i64 a.5), Value.iface (1000000007 : Nat) (Value.int IntKind.i64 a.6), Value.iface
(1000000007 : Nat) (Value.int IntKind.i64 a.7), Value.iface (1000000007 : Nat) (Value.int IntKind.u64 a.8)])) (37 : Nat) Md.own)
end
theorem vc_cli32 (a : SA) : G_cli32 a = ((a.1 = Bool.true → ∃ (x0 : RW), (∀ (x1 : List Int), Sli (Value.int IntKind.i32) (1 : Nat) a.1 a.2 a.3 a.4 a.5 x1 → Sli (Value.int IntKind.i32) (1 : Nat) a.1 (0 : Nat) a.3 x0.1 x0.2
x1) ∧ (a.1 = Bool.true ∧ a.3 = (0 : Nat) ∧ x0.1 = (0 : Nat)) ∧ (FlatL x0.2 ∧ True) ∧ True) ∧ (a.1 = Bool.false → (a.1 = Bool.true → ((0 : Nat) ≤ (0 : Nat) → Bool.true = Bool.true ∧
Bool.true = Bool.true ∧ (0 : Nat) ≤ (0 : Nat) ∧ ∀ (x2 : Nat) (x3 : List Value), x2 = (0 : Nat) → x3 = lput [] (0 : Nat) [] → ∃ (x4 : RW), (∀ (x5 : List Int), Sli (Value.int
IntKind.i32) (1 : Nat) a.1 a.2 a.3 a.4 a.5 x5 → Sli (Value.int IntKind.i32) (1 : Nat) a.1 (0 : Nat) a.3 x4.1 x4.2 x5) ∧ (a.1 = Bool.false ∧ (0 : Nat) = (0 : Nat) ∧ a.3 = x2 ∧ x4.1
= (0 : Nat)) ∧ ((x4.1 = (0 : Nat) ∧ x3 = []) ∧ FlatL x4.2 ∧ x4.2 = x3) ∧ True) ∧ (¬(0 : Nat) ≤ (0 : Nat) → Few (0 : Nat) (4 : Nat) ∧ (0 : Nat) ≤ (0 : Nat) ∧ ∀ (x6 : Nat) (x7 : List
Value), x6 = (0 : Nat) → x7 = lwin [] (0 : Nat) (0 : Nat) ++ [] → ∃ (x8 : RW), (∀ (x9 : List Int), Sli (Value.int IntKind.i32) (1 : Nat) a.1 a.2 a.3 a.4 a.5 x9 → Sli (Value.int
IntKind.i32) (1 : Nat) a.1 (0 : Nat) a.3 x8.1 x8.2 x9) ∧ (a.1 = Bool.false ∧ (0 : Nat) = (0 : Nat) ∧ a.3 = x6 ∧ x8.1 = x6) ∧ (x8.1 = x6 ∧ FlatL x8.2 ∧ x8.2 = x7) ∧ True)) ∧ (a.1 =
Bool.false → a.2 + a.3 * (1 : Nat) ≤ List.length a.5 ∧ ∀ (x10 : List Value), x10 = lwin a.5 a.2 (a.3 * (1 : Nat)) → ((0 : Nat) + a.3 ≤ (0 : Nat) → Bool.true = Bool.true ∧ lall oneK
x10 = Bool.true ∧ (0 : Nat) + List.length x10 ≤ (0 : Nat) ∧ ∀ (x11 : Nat) (x12 : List Value), x11 = (0 : Nat) + a.3 → x12 = lput [] (0 : Nat) x10 → ∃ (x13 : RW), (∀ (x14 : List
Int), Sli (Value.int IntKind.i32) (1 : Nat) a.1 a.2 a.3 a.4 a.5 x14 → Sli (Value.int IntKind.i32) (1 : Nat) a.1 (0 : Nat) a.3 x13.1 x13.2 x14) ∧ (a.1 = Bool.false ∧ (0 : Nat) = (0
: Nat) ∧ a.3 = x11 ∧ x13.1 = (0 : Nat)) ∧ ((x13.1 = (0 : Nat) ∧ x12 = []) ∧ FlatL x13.2 ∧ x13.2 = x12) ∧ True) ∧ (¬(0 : Nat) + a.3 ≤ (0 : Nat) → Few ((0 : Nat) + a.3) (4 : Nat) ∧
(0 : Nat) ≤ (0 : Nat) ∧ ∀ (x15 : Nat) (x16 : List Value), x15 = (0 : Nat) + a.3 → x16 = lwin [] (0 : Nat) (0 : Nat) ++ x10 → ∃ (x17 : RW), (∀ (x18 : List Int), Sli (Value.int
IntKind.i32) (1 : Nat) a.1 a.2 a.3 a.4 a.5 x18 → Sli (Value.int IntKind.i32) (1 : Nat) a.1 (0 : Nat) a.3 x17.1 x17.2 x18) ∧ (a.1 = Bool.false ∧ (0 : Nat) = (0 : Nat) ∧ a.3 = x15 ∧
x17.1 = x15) ∧ (x17.1 = x15 ∧ FlatL x17.2 ∧ x17.2 = x16) ∧ True)))) := by kernel_rfl
theorem vc_clbool (a : SA) : G_clbool a = ((a.1 = Bool.true → ∃ (x0 : RW), (∀ (x1 : List Bool), Sli Value.bool (1 : Nat) a.1 a.2 a.3 a.4 a.5 x1 → Sli Value.bool (1 : Nat) a.1 (0 : Nat) a.3 x0.1 x0.2 x1) ∧ (a.1 = Bool.true ∧
a.3 = (0 : Nat) ∧ x0.1 = (0 : Nat)) ∧ (FlatL x0.2 ∧ True) ∧ True) ∧ (a.1 = Bool.false → (a.1 = Bool.true → ((0 : Nat) ≤ (0 : Nat) → Bool.true = Bool.true ∧ Bool.true = Bool.true ∧
(0 : Nat) ≤ (0 : Nat) ∧ ∀ (x2 : Nat) (x3 : List Value), x2 = (0 : Nat) → x3 = lput [] (0 : Nat) [] → ∃ (x4 : RW), (∀ (x5 : List Bool), Sli Value.bool (1 : Nat) a.1 a.2 a.3 a.4 a.5
x5 → Sli Value.bool (1 : Nat) a.1 (0 : Nat) a.3 x4.1 x4.2 x5) ∧ (a.1 = Bool.false ∧ (0 : Nat) = (0 : Nat) ∧ a.3 = x2 ∧ x4.1 = (0 : Nat)) ∧ ((x4.1 = (0 : Nat) ∧ x3 = []) ∧ FlatL
x4.2 ∧ x4.2 = x3) ∧ True) ∧ (¬(0 : Nat) ≤ (0 : Nat) → Few (0 : Nat) (1 : Nat) ∧ (0 : Nat) ≤ (0 : Nat) ∧ ∀ (x6 : Nat) (x7 : List Value), x6 = (0 : Nat) → x7 = lwin [] (0 : Nat) (0 :
Nat) ++ [] → ∃ (x8 : RW), (∀ (x9 : List Bool), Sli Value.bool (1 : Nat) a.1 a.2 a.3 a.4 a.5 x9 → Sli Value.bool (1 : Nat) a.1 (0 : Nat) a.3 x8.1 x8.2 x9) ∧ (a.1 = Bool.false ∧ (0 :
Nat) = (0 : Nat) ∧ a.3 = x6 ∧ x8.1 = x6) ∧ (x8.1 = x6 ∧ FlatL x8.2 ∧ x8.2 = x7) ∧ True)) ∧ (a.1 = Bool.false → a.2 + a.3 * (1 : Nat) ≤ List.length a.5 ∧ ∀ (x10 : List Value), x10 =
lwin a.5 a.2 (a.3 * (1 : Nat)) → ((0 : Nat) + a.3 ≤ (0 : Nat) → Bool.true = Bool.true ∧ lall oneK x10 = Bool.true ∧ (0 : Nat) + List.length x10 ≤ (0 : Nat) ∧ ∀ (x11 : Nat) (x12 :
List Value), x11 = (0 : Nat) + a.3 → x12 = lput [] (0 : Nat) x10 → ∃ (x13 : RW), (∀ (x14 : List Bool), Sli Value.bool (1 : Nat) a.1 a.2 a.3 a.4 a.5 x14 → Sli Value.bool (1 : Nat)
a.1 (0 : Nat) a.3 x13.1 x13.2 x14) ∧ (a.1 = Bool.false ∧ (0 : Nat) = (0 : Nat) ∧ a.3 = x11 ∧ x13.1 = (0 : Nat)) ∧ ((x13.1 = (0 : Nat) ∧ x12 = []) ∧ FlatL x13.2 ∧ x13.2 = x12) ∧
True) ∧ (¬(0 : Nat) + a.3 ≤ (0 : Nat) → Few ((0 : Nat) + a.3) (1 : Nat) ∧ (0 : Nat) ≤ (0 : Nat) ∧ ∀ (x15 : Nat) (x16 : List Value), x15 = (0 : Nat) + a.3 → x16 = lwin [] (0 : Nat)
(0 : Nat) ++ x10 → ∃ (x17 : RW), (∀ (x18 : List Bool), Sli Value.bool (1 : Nat) a.1 a.2 a.3 a.4 a.5 x18 → Sli Value.bool (1 : Nat) a.1 (0 : Nat) a.3 x17.1 x17.2 x18) ∧ (a.1 =
Bool.false ∧ (0 : Nat) = (0 : Nat) ∧ a.3 = x15 ∧ x17.1 = x15) ∧ (x17.1 = x15 ∧ FlatL x17.2 ∧ x17.2 = x16) ∧ True)))) := by kernel_rfl
theorem vc_cldig (a : SA) : G_cldig a = ((a.1 = Bool.true → ∃ (x0 : RW), (∀ (x1 : List Int), Sli (Value.int IntKind.u8) (8 : Nat) a.1 a.2 a.3 a.4 a.5 x1 → Sli (Value.int IntKind.u8) (8 : Nat) a.1 (0 : Nat) a.3 x0.1 x0.2
x1) ∧ (a.1 = Bool.true ∧ a.3 = (0 : Nat) ∧ x0.1 = (0 : Nat)) ∧ (FlatL x0.2 ∧ True) ∧ True) ∧ (a.1 = Bool.false → (a.1 = Bool.true → ((0 : Nat) ≤ (0 : Nat) → Bool.true = Bool.true ∧
Bool.true = Bool.true ∧ (0 : Nat) ≤ (0 : Nat) ∧ ∀ (x2 : Nat) (x3 : List Value), x2 = (0 : Nat) → x3 = lput [] (0 : Nat) [] → ∃ (x4 : RW), (∀ (x5 : List Int), Sli (Value.int
IntKind.u8) (8 : Nat) a.1 a.2 a.3 a.4 a.5 x5 → Sli (Value.int IntKind.u8) (8 : Nat) a.1 (0 : Nat) a.3 x4.1 x4.2 x5) ∧ (a.1 = Bool.false ∧ (0 : Nat) = (0 : Nat) ∧ a.3 = x2 ∧ x4.1 =
(0 : Nat)) ∧ ((x4.1 = (0 : Nat) ∧ x3 = []) ∧ FlatL x4.2 ∧ x4.2 = x3) ∧ True) ∧ (¬(0 : Nat) ≤ (0 : Nat) → Few (0 : Nat) (8 : Nat) ∧ (0 : Nat) ≤ (0 : Nat) ∧ ∀ (x6 : Nat) (x7 : List
Value), x6 = (0 : Nat) → x7 = lwin [] (0 : Nat) (0 : Nat) ++ [] → ∃ (x8 : RW), (∀ (x9 : List Int), Sli (Value.int IntKind.u8) (8 : Nat) a.1 a.2 a.3 a.4 a.5 x9 → Sli (Value.int
IntKind.u8) (8 : Nat) a.1 (0 : Nat) a.3 x8.1 x8.2 x9) ∧ (a.1 = Bool.false ∧ (0 : Nat) = (0 : Nat) ∧ a.3 = x6 ∧ x8.1 = x6) ∧ (x8.1 = x6 ∧ FlatL x8.2 ∧ x8.2 = x7) ∧ True)) ∧ (a.1 =
Bool.false → a.2 + a.3 * (8 : Nat) ≤ List.length a.5 ∧ ∀ (x10 : List Value), x10 = lwin a.5 a.2 (a.3 * (8 : Nat)) → ((0 : Nat) + a.3 ≤ (0 : Nat) → Bool.true = Bool.true ∧ lall oneK
x10 = Bool.true ∧ (0 : Nat) + List.length x10 ≤ (0 : Nat) ∧ ∀ (x11 : Nat) (x12 : List Value), x11 = (0 : Nat) + a.3 → x12 = lput [] (0 : Nat) x10 → ∃ (x13 : RW), (∀ (x14 : List
Int), Sli (Value.int IntKind.u8) (8 : Nat) a.1 a.2 a.3 a.4 a.5 x14 → Sli (Value.int IntKind.u8) (8 : Nat) a.1 (0 : Nat) a.3 x13.1 x13.2 x14) ∧ (a.1 = Bool.false ∧ (0 : Nat) = (0 :
Nat) ∧ a.3 = x11 ∧ x13.1 = (0 : Nat)) ∧ ((x13.1 = (0 : Nat) ∧ x12 = []) ∧ FlatL x13.2 ∧ x13.2 = x12) ∧ True) ∧ (¬(0 : Nat) + a.3 ≤ (0 : Nat) → Few ((0 : Nat) + a.3) (8 : Nat) ∧ (0
: Nat) ≤ (0 : Nat) ∧ ∀ (x15 : Nat) (x16 : List Value), x15 = (0 : Nat) + a.3 → x16 = lwin [] (0 : Nat) (0 : Nat) ++ x10 → ∃ (x17 : RW), (∀ (x18 : List Int), Sli (Value.int
IntKind.u8) (8 : Nat) a.1 a.2 a.3 a.4 a.5 x18 → Sli (Value.int IntKind.u8) (8 : Nat) a.1 (0 : Nat) a.3 x17.1 x17.2 x18) ∧ (a.1 = Bool.false ∧ (0 : Nat) = (0 : Nat) ∧ a.3 = x15 ∧
x17.1 = x15) ∧ (x17.1 = x15 ∧ FlatL x17.2 ∧ x17.2 = x16) ∧ True)))) := by kernel_rfl
theorem vc_cut (a : PA) : G_cut a = (∀ (x0 : Int), x0 = (↑a.1.3 : Int) → ∀ (x1 : Int), x1 = Min.min x0 (70 : Int) → (a.1.1 = Bool.true → ((0 : Int) = (0 : Int) ∧ x1 = (0 : Int)) ∧ ∀ (x2 : Int), x2 = (↑a.2.3 : Int) → ∀
(x3 : Int), x3 = Min.min x2 (10 : Int) → (a.2.1 = Bool.true → ((0 : Int) = (0 : Int) ∧ x3 = (0 : Int)) ∧ ∀ (x4 : Int), x4 = (↑a.3.3 : Int) → ∀ (x5 : Int), x5 = Min.min x4 (10 :
Int) → (a.3.1 = Bool.true → ((0 : Int) = (0 : Int) ∧ x5 = (0 : Int)) ∧ (True ∧ True ∧ True ∧ True ∧ True ∧ True ∧ True ∧ True ∧ True ∧ True ∧ True ∧ (W_G_cut_0 a = W_G_cut_0 a ∧
True) ∧ (True ∧ True) ∧ (W_G_cut_0 a = W_G_cut_0 a ∧ True) ∧ True ∧ True ∧ True ∧ True ∧ (W_G_cut_1 a = W_G_cut_1 a ∧ W_G_cut_1 a = W_G_cut_1 a ∧ True) ∧ (True ∧ True ∧ True) ∧
(W_G_cut_1 a = W_G_cut_1 a ∧ W_G_cut_1 a = W_G_cut_1 a ∧ True) ∧ True ∧ True ∧ True ∧ True ∧ True ∧ True ∧ True) ∧ ∃ (x6 : Unit), True ∧ ((a.1.1 = Bool.true ∧ Min.min a.1.3 (70 :
Nat) = (0 : Nat) ∧ a.1.4 = (0 : Nat)) ∧ (a.2.1 = Bool.true ∧ Min.min a.2.3 (10 : Nat) = (0 : Nat) ∧ a.2.4 = (0 : Nat)) ∧ (a.3.1 = Bool.true ∧ Min.min a.3.3 (10 : Nat) = (0 : Nat) ∧
a.3.4 = (0 : Nat)) ∧ a.4 = a.4 ∧ a.5 = a.5 ∧ a.6 = a.6 ∧ a.7 = a.7 ∧ a.8 = a.8 ∧ True) ∧ True) ∧ (a.3.1 = Bool.false → (((0 : Int) ≤ (0 : Int) ∧ (0 : Int) ≤ x5 ∧ x5 ≤ (↑a.3.4 :
Int)) ∧ (Bool.true = Bool.true → x5 ≤ (↑a.3.3 : Int) ∧ ((0 : Int) = (0 : Int) ∨ (0 : Int) < (↑a.3.4 : Int)))) ∧ ∀ (x7 x8 x9 : Nat), (x7 = if SA.k (PA.s3 a) = Int.toNat (0 : Int)
then a.3.2 else a.3.2 + (0 : Nat)) → x8 = Int.toNat x5 - (0 : Nat) → x9 = a.3.4 - (0 : Nat) → (True ∧ True ∧ True ∧ True ∧ True ∧ True ∧ True ∧ True ∧ True ∧ True ∧ True ∧
(W_G_cut_0 a = W_G_cut_0 a ∧ True) ∧ (True ∧ True) ∧ (W_G_cut_0 a = W_G_cut_0 a ∧ True) ∧ True ∧ True ∧ True ∧ True ∧ (W_G_cut_1 a = W_G_cut_1 a ∧ W_G_cut_1 a = W_G_cut_1 a ∧ True)
∧ (True ∧ True ∧ True) ∧ (W_G_cut_1 a = W_G_cut_1 a ∧ W_G_cut_1 a = W_G_cut_1 a ∧ True) ∧ True ∧ True ∧ True ∧ True ∧ True ∧ True ∧ True) ∧ ∃ (x10 : Unit), True ∧ ((a.1.1 =
Bool.true ∧ Min.min a.1.3 (70 : Nat) = (0 : Nat) ∧ a.1.4 = (0 : Nat)) ∧ (a.2.1 = Bool.true ∧ Min.min a.2.3 (10 : Nat) = (0 : Nat) ∧ a.2.4 = (0 : Nat)) ∧ (a.3.1 = Bool.false ∧ a.3.2
= x7 ∧ Min.min a.3.3 (10 : Nat) = x8 ∧ a.3.4 = x9) ∧ a.4 = a.4 ∧ a.5 = a.5 ∧ a.6 = a.6 ∧ a.7 = a.7 ∧ a.8 = a.8 ∧ True) ∧ True)) ∧ (a.2.1 = Bool.false → (((0 : Int) ≤ (0 : Int) ∧ (0
: Int) ≤ x3 ∧ x3 ≤ (↑a.2.4 : Int)) ∧ (Bool.true = Bool.true → x3 ≤ (↑a.2.3 : Int) ∧ ((0 : Int) = (0 : Int) ∨ (0 : Int) < (↑a.2.4 : Int)))) ∧ ∀ (x11 x12 x13 : Nat), (x11 = if SA.k
(PA.s2 a) = Int.toNat (0 : Int) then a.2.2 else a.2.2 + (0 : Nat)) → x12 = Int.toNat x3 - (0 : Nat) → x13 = a.2.4 - (0 : Nat) → ∀ (x14 : Int), x14 = (↑a.3.3 : Int) → ∀ (x15 : Int),
x15 = Min.min x14 (10 : Int) → (a.3.1 = Bool.true → ((0 : Int) = (0 : Int) ∧ x15 = (0 : Int)) ∧ (True ∧ True ∧ True ∧ True ∧ True ∧ True ∧ True ∧ True ∧ True ∧ True ∧ True ∧
(W_G_cut_0 a = W_G_cut_0 a ∧ True) ∧ (True ∧ True) ∧ (W_G_cut_0 a = W_G_cut_0 a ∧ True) ∧ True ∧ True ∧ True ∧ True ∧ (W_G_cut_1 a = W_G_cut_1 a ∧ W_G_cut_1 a = W_G_cut_1 a ∧ True)
∧ (True ∧ True ∧ True) ∧ (W_G_cut_1 a = W_G_cut_1 a ∧ W_G_cut_1 a = W_G_cut_1 a ∧ True) ∧ True ∧ True ∧ True ∧ True ∧ True ∧ True ∧ True) ∧ ∃ (x16 : Unit), True ∧ ((a.1.1 =
Bool.true ∧ Min.min a.1.3 (70 : Nat) = (0 : Nat) ∧ a.1.4 = (0 : Nat)) ∧ (a.2.1 = Bool.false ∧ a.2.2 = x11 ∧ Min.min a.2.3 (10 : Nat) = x12 ∧ a.2.4 = x13) ∧ (a.3.1 = Bool.true ∧
Min.min a.3.3 (10 : Nat) = (0 : Nat) ∧ a.3.4 = (0 : Nat)) ∧ a.4 = a.4 ∧ a.5 = a.5 ∧ a.6 = a.6 ∧ a.7 = a.7 ∧ a.8 = a.8 ∧ True) ∧ True) ∧ (a.3.1 = Bool.false → (((0 : Int) ≤ (0 :
Int) ∧ (0 : Int) ≤ x15 ∧ x15 ≤ (↑a.3.4 : Int)) ∧ (Bool.true = Bool.true → x15 ≤ (↑a.3.3 : Int) ∧ ((0 : Int) = (0 : Int) ∨ (0 : Int) < (↑a.3.4 : Int)))) ∧ ∀ (x17 x18 x19 : Nat),
(x17 = if SA.k (PA.s3 a) = Int.toNat (0 : Int) then a.3.2 else a.3.2 + (0 : Nat)) → x18 = Int.toNat x15 - (0 : Nat) → x19 = a.3.4 - (0 : Nat) → (True ∧ True ∧ True ∧ True ∧ True ∧
True ∧ True ∧ True ∧ True ∧ True ∧ True ∧ (W_G_cut_0 a = W_G_cut_0 a ∧ True) ∧ (True ∧ True) ∧ (W_G_cut_0 a = W_G_cut_0 a ∧ True) ∧ True ∧ True ∧ True ∧ True ∧ (W_G_cut_1 a =
W_G_cut_1 a ∧ W_G_cut_1 a = W_G_cut_1 a ∧ True) ∧ (True ∧ True ∧ True) ∧ (W_G_cut_1 a = W_G_cut_1 a ∧ W_G_cut_1 a = W_G_cut_1 a ∧ True) ∧ True ∧ True ∧ True ∧ True ∧ True ∧ True ∧
True) ∧ ∃ (x20 : Unit), True ∧ ((a.1.1 = Bool.true ∧ Min.min a.1.3 (70 : Nat) = (0 : Nat) ∧ a.1.4 = (0 : Nat)) ∧ (a.2.1 = Bool.false ∧ a.2.2 = x11 ∧ Min.min a.2.3 (10 : Nat) = x12
∧ a.2.4 = x13) ∧ (a.3.1 = Bool.false ∧ a.3.2 = x17 ∧ Min.min a.3.3 (10 : Nat) = x18 ∧ a.3.4 = x19) ∧ a.4 = a.4 ∧ a.5 = a.5 ∧ a.6 = a.6 ∧ a.7 = a.7 ∧ a.8 = a.8 ∧ True) ∧ True))) ∧
(a.1.1 = Bool.false → (((0 : Int) ≤ (0 : Int) ∧ (0 : Int) ≤ x1 ∧ x1 ≤ (↑a.1.4 : Int)) ∧ (Bool.true = Bool.true → x1 ≤ (↑a.1.3 : Int) ∧ ((0 : Int) = (0 : Int) ∨ (0 : Int) < (↑a.1.4
: Int)))) ∧ ∀ (x21 x22 x23 : Nat), (x21 = if SA.k (PA.s1 a) = Int.toNat (0 : Int) then a.1.2 else a.1.2 + (0 : Nat)) → x22 = Int.toNat x1 - (0 : Nat) → x23 = a.1.4 - (0 : Nat) → ∀
(x24 : Int), x24 = (↑a.2.3 : Int) → ∀ (x25 : Int), x25 = Min.min x24 (10 : Int) → (a.2.1 = Bool.true → ((0 : Int) = (0 : Int) ∧ x25 = (0 : Int)) ∧ ∀ (x26 : Int), x26 = (↑a.3.3 :
Int) → ∀ (x27 : Int), x27 = Min.min x26 (10 : Int) → (a.3.1 = Bool.true → ((0 : Int) = (0 : Int) ∧ x27 = (0 : Int)) ∧ (True ∧ True ∧ True ∧ True ∧ True ∧ True ∧ True ∧ True ∧ True
∧ True ∧ True ∧ (W_G_cut_0 a = W_G_cut_0 a ∧ True) ∧ (True ∧ True) ∧ (W_G_cut_0 a = W_G_cut_0 a ∧ True) ∧ True ∧ True ∧ True ∧ True ∧ (W_G_cut_1 a = W_G_cut_1 a ∧ W_G_cut_1 a =
W_G_cut_1 a ∧ True) ∧ (True ∧ True ∧ True) ∧ (W_G_cut_1 a = W_G_cut_1 a ∧ W_G_cut_1 a = W_G_cut_1 a ∧ True) ∧ True ∧ True ∧ True ∧ True ∧ True ∧ True ∧ True) ∧ ∃ (x28 : Unit), True
∧ ((a.1.1 = Bool.false ∧ a.1.2 = x21 ∧ Min.min a.1.3 (70 : Nat) = x22 ∧ a.1.4 = x23) ∧ (a.2.1 = Bool.true ∧ Min.min a.2.3 (10 : Nat) = (0 : Nat) ∧ a.2.4 = (0 : Nat)) ∧ (a.3.1 =
Bool.true ∧ Min.min a.3.3 (10 : Nat) = (0 : Nat) ∧ a.3.4 = (0 : Nat)) ∧ a.4 = a.4 ∧ a.5 = a.5 ∧ a.6 = a.6 ∧ a.7 = a.7 ∧ a.8 = a.8 ∧ True) ∧ True) ∧ (a.3.1 = Bool.false → (((0 :
Int) ≤ (0 : Int) ∧ (0 : Int) ≤ x27 ∧ x27 ≤ (↑a.3.4 : Int)) ∧ (Bool.true = Bool.true → x27 ≤ (↑a.3.3 : Int) ∧ ((0 : Int) = (0 : Int) ∨ (0 : Int) < (↑a.3.4 : Int)))) ∧ ∀ (x29 x30 x31
: Nat), (x29 = if SA.k (PA.s3 a) = Int.toNat (0 : Int) then a.3.2 else a.3.2 + (0 : Nat)) → x30 = Int.toNat x27 - (0 : Nat) → x31 = a.3.4 - (0 : Nat) → (True ∧ True ∧ True ∧ True ∧
True ∧ True ∧ True ∧ True ∧ True ∧ True ∧ True ∧ (W_G_cut_0 a = W_G_cut_0 a ∧ True) ∧ (True ∧ True) ∧ (W_G_cut_0 a = W_G_cut_0 a ∧ True) ∧ True ∧ True ∧ True ∧ True ∧ (W_G_cut_1 a
= W_G_cut_1 a ∧ W_G_cut_1 a = W_G_cut_1 a ∧ True) ∧ (True ∧ True ∧ True) ∧ (W_G_cut_1 a = W_G_cut_1 a ∧ W_G_cut_1 a = W_G_cut_1 a ∧ True) ∧ True ∧ True ∧ True ∧ True ∧ True ∧ True
∧ True) ∧ ∃ (x32 : Unit), True ∧ ((a.1.1 = Bool.false ∧ a.1.2 = x21 ∧ Min.min a.1.3 (70 : Nat) = x22 ∧ a.1.4 = x23) ∧ (a.2.1 = Bool.true ∧ Min.min a.2.3 (10 : Nat) = (0 : Nat) ∧
a.2.4 = (0 : Nat)) ∧ (a.3.1 = Bool.false ∧ a.3.2 = x29 ∧ Min.min a.3.3 (10 : Nat) = x30 ∧ a.3.4 = x31) ∧ a.4 = a.4 ∧ a.5 = a.5 ∧ a.6 = a.6 ∧ a.7 = a.7 ∧ a.8 = a.8 ∧ True) ∧ True))
∧ (a.2.1 = Bool.false → (((0 : Int) ≤ (0 : Int) ∧ (0 : Int) ≤ x25 ∧ x25 ≤ (↑a.2.4 : Int)) ∧ (Bool.true = Bool.true → x25 ≤ (↑a.2.3 : Int) ∧ ((0 : Int) = (0 : Int) ∨ (0 : Int) <
(↑a.2.4 : Int)))) ∧ ∀ (x33 x34 x35 : Nat), (x33 = if SA.k (PA.s2 a) = Int.toNat (0 : Int) then a.2.2 else a.2.2 + (0 : Nat)) → x34 = Int.toNat x25 - (0 : Nat) → x35 = a.2.4 - (0 :
Nat) → ∀ (x36 : Int), x36 = (↑a.3.3 : Int) → ∀ (x37 : Int), x37 = Min.min x36 (10 : Int) → (a.3.1 = Bool.true → ((0 : Int) = (0 : Int) ∧ x37 = (0 : Int)) ∧ (True ∧ True ∧ True ∧
True ∧ True ∧ True ∧ True ∧ True ∧ True ∧ True ∧ True ∧ (W_G_cut_0 a = W_G_cut_0 a ∧ True) ∧ (True ∧ True) ∧ (W_G_cut_0 a = W_G_cut_0 a ∧ True) ∧ True ∧ True ∧ True ∧ True ∧
(W_G_cut_1 a = W_G_cut_1 a ∧ W_G_cut_1 a = W_G_cut_1 a ∧ True) ∧ (True ∧ True ∧ True) ∧ (W_G_cut_1 a = W_G_cut_1 a ∧ W_G_cut_1 a = W_G_cut_1 a ∧ True) ∧ True ∧ True ∧ True ∧ True ∧
True ∧ True ∧ True) ∧ ∃ (x38 : Unit), True ∧ ((a.1.1 = Bool.false ∧ a.1.2 = x21 ∧ Min.min a.1.3 (70 : Nat) = x22 ∧ a.1.4 = x23) ∧ (a.2.1 = Bool.false ∧ a.2.2 = x33 ∧ Min.min a.2.3
(10 : Nat) = x34 ∧ a.2.4 = x35) ∧ (a.3.1 = Bool.true ∧ Min.min a.3.3 (10 : Nat) = (0 : Nat) ∧ a.3.4 = (0 : Nat)) ∧ a.4 = a.4 ∧ a.5 = a.5 ∧ a.6 = a.6 ∧ a.7 = a.7 ∧ a.8 = a.8 ∧ True)
∧ True) ∧ (a.3.1 = Bool.false → (((0 : Int) ≤ (0 : Int) ∧ (0 : Int) ≤ x37 ∧ x37 ≤ (↑a.3.4 : Int)) ∧ (Bool.true = Bool.true → x37 ≤ (↑a.3.3 : Int) ∧ ((0 : Int) = (0 : Int) ∨ (0 :
Int) < (↑a.3.4 : Int)))) ∧ ∀ (x39 x40 x41 : Nat), (x39 = if SA.k (PA.s3 a) = Int.toNat (0 : Int) then a.3.2 else a.3.2 + (0 : Nat)) → x40 = Int.toNat x37 - (0 : Nat) → x41 = a.3.4
- (0 : Nat) → (True ∧ True ∧ True ∧ True ∧ True ∧ True ∧ True ∧ True ∧ True ∧ True ∧ True ∧ (W_G_cut_0 a = W_G_cut_0 a ∧ True) ∧ (True ∧ True) ∧ (W_G_cut_0 a = W_G_cut_0 a ∧ True)
∧ True ∧ True ∧ True ∧ True ∧ (W_G_cut_1 a = W_G_cut_1 a ∧ W_G_cut_1 a = W_G_cut_1 a ∧ True) ∧ (True ∧ True ∧ True) ∧ (W_G_cut_1 a = W_G_cut_1 a ∧ W_G_cut_1 a = W_G_cut_1 a ∧ True)
∧ True ∧ True ∧ True ∧ True ∧ True ∧ True ∧ True) ∧ ∃ (x42 : Unit), True ∧ ((a.1.1 = Bool.false ∧ a.1.2 = x21 ∧ Min.min a.1.3 (70 : Nat) = x22 ∧ a.1.4 = x23) ∧ (a.2.1 = Bool.false
∧ a.2.2 = x33 ∧ Min.min a.2.3 (10 : Nat) = x34 ∧ a.2.4 = x35) ∧ (a.3.1 = Bool.false ∧ a.3.2 = x39 ∧ Min.min a.3.3 (10 : Nat) = x40 ∧ a.3.4 = x41) ∧ a.4 = a.4 ∧ a.5 = a.5 ∧ a.6 =
a.6 ∧ a.7 = a.7 ∧ a.8 = a.8 ∧ True) ∧ True)))) := by kernel_rfl
theorem vc_clone (a : PA) : G_clone a = ((True ∧ (∃ (x0 : List Int), Sli (Value.int IntKind.i32) (1 : Nat) a.1.1 a.1.2 a.1.3 a.1.4 a.1.5 x0) ∧ a.1.3 ≤ (100 : Nat)) ∧ (((a.1.1 = a.1.1 ∧ a.1.2 = a.1.2 ∧ a.1.3 = a.1.3 ∧
a.1.4 = a.1.4) ∧ True) ∧ (True ∧ FlatL a.1.5 ∧ a.1.5 = a.1.5) ∧ True) ∧ (∀ (x1 : RW), (∀ (x2 : List Int), Sli (Value.int IntKind.i32) (1 : Nat) a.1.1 a.1.2 a.1.3 a.1.4 a.1.5 x2 →
Sli (Value.int IntKind.i32) (1 : Nat) a.1.1 (0 : Nat) a.1.3 x1.1 x1.2 x2) → (True ∧ (∃ (x3 : List Bool), Sli Value.bool (1 : Nat) a.2.1 a.2.2 a.2.3 a.2.4 a.2.5 x3) ∧ a.2.3 ≤ (100 :
Nat)) ∧ (((a.2.1 = a.2.1 ∧ a.2.2 = a.2.2 ∧ a.2.3 = a.2.3 ∧ a.2.4 = a.2.4) ∧ True) ∧ (True ∧ FlatL a.2.5 ∧ a.2.5 = a.2.5) ∧ True) ∧ (∀ (x4 : RW), (∀ (x5 : List Bool), Sli Value.bool
(1 : Nat) a.2.1 a.2.2 a.2.3 a.2.4 a.2.5 x5 → Sli Value.bool (1 : Nat) a.2.1 (0 : Nat) a.2.3 x4.1 x4.2 x5) → (True ∧ (∃ (x6 : List Int), Sli (Value.int IntKind.u8) (8 : Nat) a.3.1
a.3.2 a.3.3 a.3.4 a.3.5 x6) ∧ a.3.3 ≤ (100 : Nat)) ∧ (((a.3.1 = a.3.1 ∧ a.3.2 = a.3.2 ∧ a.3.3 = a.3.3 ∧ a.3.4 = a.3.4) ∧ True) ∧ (True ∧ FlatL a.3.5 ∧ a.3.5 = a.3.5) ∧ True) ∧ (∀
(x7 : RW), (∀ (x8 : List Int), Sli (Value.int IntKind.u8) (8 : Nat) a.3.1 a.3.2 a.3.3 a.3.4 a.3.5 x8 → Sli (Value.int IntKind.u8) (8 : Nat) a.3.1 (0 : Nat) a.3.3 x7.1 x7.2 x8) →
(True ∧ True ∧ True ∧ (True ∧ True) ∧ (W_G_clone_0 a = W_G_clone_0 a ∧ True) ∧ True ∧ (True ∧ True ∧ True) ∧ (W_G_clone_0 a = W_G_clone_0 a ∧ W_G_clone_0 a = W_G_clone_0 a ∧ True)
∧ True ∧ (True ∧ True ∧ True ∧ True) ∧ (W_G_clone_0 a = W_G_clone_0 a ∧ W_G_clone_0 a = W_G_clone_0 a ∧ W_G_clone_0 a = W_G_clone_0 a ∧ True) ∧ True ∧ True ∧ True) ∧ ∃ (x9 : PB),
(∀ (x10 : PX), PH a x10 → PH (PA.mk (SA.mk a.1.1 (0 : Nat) a.1.3 x9.1.1 x9.1.2) (SA.mk a.2.1 (0 : Nat) a.2.3 x9.2.1 x9.2.2) (SA.mk a.3.1 (0 : Nat) a.3.3 x9.3.1 x9.3.2) a.4 a.5 a.6
a.7 a.8) x10) ∧ ((a.1.1 = a.1.1 ∧ (0 : Nat) = (0 : Nat) ∧ a.1.3 = a.1.3 ∧ x9.1.1 = x1.1) ∧ (a.2.1 = a.2.1 ∧ (0 : Nat) = (0 : Nat) ∧ a.2.3 = a.2.3 ∧ x9.2.1 = x4.1) ∧ (a.3.1 = a.3.1
∧ (0 : Nat) = (0 : Nat) ∧ a.3.3 = a.3.3 ∧ x9.3.1 = x7.1) ∧ a.4 = a.4 ∧ a.5 = a.5 ∧ a.6 = a.6 ∧ a.7 = a.7 ∧ a.8 = a.8 ∧ True) ∧ (x9.1.1 = x1.1 ∧ FlatL x9.1.2 ∧ x9.1.2 = x1.2) ∧
(x9.2.1 = x4.1 ∧ FlatL x9.2.2 ∧ x9.2.2 = x4.2) ∧ (x9.3.1 = x7.1 ∧ FlatL x9.3.2 ∧ x9.3.2 = x7.2) ∧ True) ∧ True) ∧ True) ∧ True) := by kernel_rfl
theorem lput_nil (xs : List Value) : lput [] 0 xs = xs := by simp [lput]
theorem lwin_nil : lwin [] 0 0 = [] := rfl
theorem g_cli32 (a : SA) (hp : ∃ xs, Sli (Value.int .i32) 1 a.n a.o a.l a.k a.c xs) (hl : a.l ≤ 100) : G_cli32 a := by
  obtain ⟨ys, hy⟩ := hp
  have uniq : a.n = true → a.l = 0 ∧ ∀ zs, Sli (Value.int .i32) 1 a.n a.o a.l a.k a.c zs → Sli (Value.int .i32) 1 true 0 a.l 0 [] zs := fun hn => ⟨(hy.nil hn).1, fun zs hz => by
    have hz0 := hz.nilE hn
    subst hz0
    rw [(hy.nil hn).1]; exact .none⟩
  rw [vc_cli32]
  refine ⟨fun hn => ⟨⟨0, []⟩, fun xs hx => by (rw [hn]; exact (uniq hn).2 xs hx), ⟨hn, (uniq hn).1, rfl⟩, ⟨flatL_nil, trivial⟩, trivial⟩, fun hn => ⟨fun hc => absurd (hc.symm.trans hn) (by decide), fun _ => ⟨by have := hy.fit hn; omega, fun xs hxs => ?_⟩⟩⟩
  have hw : HW (Value.int .i32) xs ys := by rw [hxs]; exact hy.win hn
  have hlen : ys.length = a.l * 1 := hy.len
  have hxl : xs.length = a.l * 1 := hw.len.trans hlen
  have fin : ∀ (c : List Value) (k : Nat), c = xs → a.l ≤ k → ∀ zs, Sli (Value.int .i32) 1 a.n a.o a.l a.k a.c zs → Sli (Value.int .i32) 1 a.n 0 a.l k c zs := fun c k hc hk zs hz => by
    subst hc
    rw [hn]
    have hw2 : HW (Value.int .i32) c zs := by rw [hxs]; exact hz.win hn
    exact .row hw2 hz.len hk hw2.flat
  refine ⟨fun h0 => ⟨rfl, hw.oneK, by omega, fun n c hn' hc => ?_⟩, fun h0 => ⟨by unfold Few; omega, by omega, fun n c hn' hc => ?_⟩⟩
  · have hx0 : xs = [] := List.eq_nil_of_length_eq_zero (by omega)
    have hc0 : c = [] := by rw [hc, hx0]; rfl
    exact ⟨⟨0, c⟩, fin c 0 (by rw [hc0, hx0]) (by omega), ⟨hn, rfl, by omega, rfl⟩, ⟨⟨rfl, hc0⟩, by rw [hc0]; exact flatL_nil, rfl⟩, trivial⟩
  · have hcx : c = xs := by rw [hc]; rfl
    exact ⟨⟨n, c⟩, fin c n hcx (by omega), ⟨hn, rfl, by omega, rfl⟩, ⟨rfl, by rw [hcx]; exact hw.flat, rfl⟩, trivial⟩
theorem s_cli32 : SpecOK Tryz.prog S_cli32.spec := fun a => specD_at (an := []) envOK cw0_ok fun hp => g_cli32 a hp.1 hp.2
theorem g_clbool (a : SA) (hp : ∃ xs, Sli (Value.bool) 1 a.n a.o a.l a.k a.c xs) (hl : a.l ≤ 100) : G_clbool a := by
  obtain ⟨ys, hy⟩ := hp
  have uniq : a.n = true → a.l = 0 ∧ ∀ zs, Sli (Value.bool) 1 a.n a.o a.l a.k a.c zs → Sli (Value.bool) 1 true 0 a.l 0 [] zs := fun hn => ⟨(hy.nil hn).1, fun zs hz => by
    have hz0 := hz.nilE hn
    subst hz0
    rw [(hy.nil hn).1]; exact .none⟩
  rw [vc_clbool]
  refine ⟨fun hn => ⟨⟨0, []⟩, fun xs hx => by (rw [hn]; exact (uniq hn).2 xs hx), ⟨hn, (uniq hn).1, rfl⟩, ⟨flatL_nil, trivial⟩, trivial⟩, fun hn => ⟨fun hc => absurd (hc.symm.trans hn) (by decide), fun _ => ⟨by have := hy.fit hn; omega, fun xs hxs => ?_⟩⟩⟩
  have hw : HW (Value.bool) xs ys := by rw [hxs]; exact hy.win hn
  have hlen : ys.length = a.l * 1 := hy.len
  have hxl : xs.length = a.l * 1 := hw.len.trans hlen
  have fin : ∀ (c : List Value) (k : Nat), c = xs → a.l ≤ k → ∀ zs, Sli (Value.bool) 1 a.n a.o a.l a.k a.c zs → Sli (Value.bool) 1 a.n 0 a.l k c zs := fun c k hc hk zs hz => by
    subst hc
    rw [hn]
    have hw2 : HW (Value.bool) c zs := by rw [hxs]; exact hz.win hn
    exact .row hw2 hz.len hk hw2.flatB
  refine ⟨fun h0 => ⟨rfl, hw.oneB, by omega, fun n c hn' hc => ?_⟩, fun h0 => ⟨by unfold Few; omega, by omega, fun n c hn' hc => ?_⟩⟩
  · have hx0 : xs = [] := List.eq_nil_of_length_eq_zero (by omega)
    have hc0 : c = [] := by rw [hc, hx0]; rfl
    exact ⟨⟨0, c⟩, fin c 0 (by rw [hc0, hx0]) (by omega), ⟨hn, rfl, by omega, rfl⟩, ⟨⟨rfl, hc0⟩, by rw [hc0]; exact flatL_nil, rfl⟩, trivial⟩
  · have hcx : c = xs := by rw [hc]; rfl
    exact ⟨⟨n, c⟩, fin c n hcx (by omega), ⟨hn, rfl, by omega, rfl⟩, ⟨rfl, by rw [hcx]; exact hw.flatB, rfl⟩, trivial⟩
theorem s_clbool : SpecOK Tryz.prog S_clbool.spec := fun a => specD_at (an := []) envOK cw0_ok fun hp => g_clbool a hp.1 hp.2
theorem g_cldig (a : SA) (hp : ∃ xs, Sli (Value.int .u8) 8 a.n a.o a.l a.k a.c xs) (hl : a.l ≤ 100) : G_cldig a := by
  obtain ⟨ys, hy⟩ := hp
  have uniq : a.n = true → a.l = 0 ∧ ∀ zs, Sli (Value.int .u8) 8 a.n a.o a.l a.k a.c zs → Sli (Value.int .u8) 8 true 0 a.l 0 [] zs := fun hn => ⟨(hy.nil hn).1, fun zs hz => by
    have hz0 := hz.nilE hn
    subst hz0
    rw [(hy.nil hn).1]; exact .none⟩
  rw [vc_cldig]
  refine ⟨fun hn => ⟨⟨0, []⟩, fun xs hx => by (rw [hn]; exact (uniq hn).2 xs hx), ⟨hn, (uniq hn).1, rfl⟩, ⟨flatL_nil, trivial⟩, trivial⟩, fun hn => ⟨fun hc => absurd (hc.symm.trans hn) (by decide), fun _ => ⟨by have := hy.fit hn; omega, fun xs hxs => ?_⟩⟩⟩
  have hw : HW (Value.int .u8) xs ys := by rw [hxs]; exact hy.win hn
  have hlen : ys.length = a.l * 8 := hy.len
  have hxl : xs.length = a.l * 8 := hw.len.trans hlen
  have fin : ∀ (c : List Value) (k : Nat), c = xs → a.l ≤ k → ∀ zs, Sli (Value.int .u8) 8 a.n a.o a.l a.k a.c zs → Sli (Value.int .u8) 8 a.n 0 a.l k c zs := fun c k hc hk zs hz => by
    subst hc
    rw [hn]
    have hw2 : HW (Value.int .u8) c zs := by rw [hxs]; exact hz.win hn
    exact .row hw2 hz.len hk hw2.flat
  refine ⟨fun h0 => ⟨rfl, hw.oneK, by omega, fun n c hn' hc => ?_⟩, fun h0 => ⟨by unfold Few; omega, by omega, fun n c hn' hc => ?_⟩⟩
  · have hx0 : xs = [] := List.eq_nil_of_length_eq_zero (by omega)
    have hc0 : c = [] := by rw [hc, hx0]; rfl
    exact ⟨⟨0, c⟩, fin c 0 (by rw [hc0, hx0]) (by omega), ⟨hn, rfl, by omega, rfl⟩, ⟨⟨rfl, hc0⟩, by rw [hc0]; exact flatL_nil, rfl⟩, trivial⟩
  · have hcx : c = xs := by rw [hc]; rfl
    exact ⟨⟨n, c⟩, fin c n hcx (by omega), ⟨hn, rfl, by omega, rfl⟩, ⟨rfl, by rw [hcx]; exact hw.flat, rfl⟩, trivial⟩
theorem s_cldig : SpecOK Tryz.prog S_cldig.spec := fun a => specD_at (an := []) envOK cw0_ok fun hp => g_cldig a hp.1 hp.2
theorem g_clone (a : PA) (hp : ∃ x, PH a x) (h1 : a.s1.l ≤ 100) (h2 : a.s2.l ≤ 100) (h3 : a.s3.l ≤ 100) : G_clone a := by
  obtain ⟨x, hx⟩ := hp
  rw [vc_clone]
  refine ⟨⟨trivial, ⟨_, hx.p1⟩, h1⟩, ⟨⟨⟨rfl, rfl, rfl, rfl⟩, trivial⟩, ⟨trivial, hx.p1.flat, rfl⟩, trivial⟩, fun b1 q1 => ⟨⟨trivial, ⟨_, hx.p2⟩, h2⟩, ⟨⟨⟨rfl, rfl, rfl, rfl⟩, trivial⟩, ⟨trivial, hx.p2.flat, rfl⟩, trivial⟩, fun b2 q2 => ⟨⟨trivial, ⟨_, hx.p3⟩, h3⟩, ⟨⟨⟨rfl, rfl, rfl, rfl⟩, trivial⟩, ⟨trivial, hx.p3.flat, rfl⟩, trivial⟩, fun b3 q3 => ⟨?_, ⟨⟨b1, b2, b3⟩, fun y hy => ⟨q1 _ hy.p1, q2 _ hy.p2, q3 _ hy.p3⟩, ?_, ⟨rfl, (q1 _ hx.p1).flat, rfl⟩, ⟨rfl, (q2 _ hx.p2).flat, rfl⟩, ⟨rfl, (q3 _ hx.p3).flat, rfl⟩, trivial⟩⟩, trivial⟩, trivial⟩, trivial⟩
  all_goals repeat' first
    | with_reducible apply And.intro
    | exact trivial
    | exact rfl
theorem s_clone : SpecOK Tryz.prog S_clone.spec := fun a => specD_at (an := []) envOK (cwD_ok s_cli32 (cwD_ok s_clbool (cwD_ok s_cldig cw0_ok))) fun hp => g_clone a hp.1 hp.2.1 hp.2.2.1 hp.2.2.2
theorem g_cut (a : PA) (hp : ∃ x, PH a x) : G_cut a := by
  obtain ⟨x, hx⟩ := hp
  have n1 := hx.p1.nil
  have n2 := hx.p2.nil
  have n3 := hx.p3.nil
  have k1 := hx.p1.cap
  have k2 := hx.p2.cap
  have k3 := hx.p3.cap
  rw [vc_cut]
  repeat' first
    | with_reducible apply And.intro
    | intro _
    | with_reducible refine Exists.intro () ?_
    | exact trivial
    | exact rfl
  all_goals
    (try have e1 := n1 (by assumption))
    (try have e2 := n2 (by assumption))
    (try have e3 := n3 (by assumption))
    first
      | assumption
      | omega
      | (subst_vars; simp; done)
theorem s_cut : SpecOK Tryz.prog S_cut.spec := fun a => specD_at (an := []) envOK cw0_ok fun hp => g_cut a hp.1
end Go.Proofs.YtalbjjimnhldfaaGreatDoor
