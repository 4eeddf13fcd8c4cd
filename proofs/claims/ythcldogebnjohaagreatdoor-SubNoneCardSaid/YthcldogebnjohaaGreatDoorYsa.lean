/- Amounts: slices.Clone, slices.IndexFunc, sum (what is to be shown). -/
import Derived.Test.YthcldogebnjohaaGreatDoorYnum
section
set_option maxRecDepth 100000
namespace Go.Proofs.YthcldogebnjohaaGreatDoor
open Go.Ev
-- keep Go.Ev.Sli Go.Ev.HV sumC rightP inRt
def rightP (n : Int) : Prop := 0 ≤ n ∧ n ≤ 1125899906842624
def inRt (l : List Int) : Prop := ∀ x ∈ l, rightP x
def sumC (l : List Int) : Int := l.foldl (fun s v => IntKind.wrap .i64 (s + v)) 0
structure NK where
  n : Int
structure NS where
  k : Int
  s : Int
set_option linter.unusedSectionVars false
variable [Go.Ev.Frozen Tryz.prog]
noncomputable section
def S_clint : SpecD where
  f := 60
  α := SA
  args a := [a.v 12]
  R a := [(12, .f a.c 3 .gro)]
  n := 12 + 1
  pre a := (∃ xs, Sli (Value.int .i64) 1 a.n a.o a.l a.k a.c xs) ∧ a.l ≤ 1000
  outs := [⟨RW, fun a b => ∀ xs, Sli (Value.int .i64) 1 a.n a.o a.l a.k a.c xs → Sli (Value.int .i64) 1 a.n 0 a.l b.k b.c xs, fun a b => mnS (12 + 1) a.n 0 a.l b.k, fun _ b => [(12 + 1, .f b.c 3 (.grown b.k))], fun _ _ => 12 + 2, fun v _ => renS (12 + 1) v⟩]
  pick _ _ := 0
  find l A := some (saOf A (lv l 0), renS 12 (lv l 0))
def G_clint (a : SA) : Prop := fnW Tryz.prog E0 cw0 [] S_clint.f (S_clint.args a) (mem (S_clint.R a) S_clint.n) (endD Tryz.prog S_clint a)
abbrev amF : Value := .func (.func 77) #[] #[]
def S_idx : SpecD where
  f := 104
  α := SA
  args a := [a.v 12, amF]
  R a := [(12, .f a.c 3 .gro)]
  n := 12 + 1
  pre a := (∃ xs, Sli (Value.int .i64) 1 a.n a.o a.l a.k a.c xs) ∧ a.l ≤ 1000
  outs := [⟨Unit, fun a _ => ∀ xs, Sli (Value.int .i64) 1 a.n a.o a.l a.k a.c xs → inRt xs, fun _ _ => .int .i64 (-1), fun _ _ => [], fun _ _ => 12 + 1, fun _ _ => []⟩,
    ⟨NK, fun a b => 0 ≤ b.n ∧ ∀ xs, Sli (Value.int .i64) 1 a.n a.o a.l a.k a.c xs → ¬ inRt xs, fun _ b => tgI .i64 b.n, fun _ _ => [], fun _ _ => 12 + 1, fun _ _ => []⟩]
  pick v _ := match v with
    | .int _ _ => 0
    | _ => 1
  find l A := saK A 12 (lv l 0) fun a r => some (a, r)
def la_idx (a : SA) (xs : List Int) : LA where
  α := NK
  at_ e := ⟨[(0, a.v 12), (1, amF), (7, tgI .i64 a.l), (8, tgI .i64 e.n)], S_idx.R a, 12 + 1⟩
  J e := (0 ≤ e.n ∧ e.n ≤ a.l) ∧ inRt (xs.take e.n.toNat)
  μ e := (a.l - e.n).toNat
  ren _ := []
def G_idx (a : SA) (xs : List Int) : Prop := fnW Tryz.prog E0 (cwX (fun c => c) 3) [some (la_idx a xs)] S_idx.f (S_idx.args a) (mem (S_idx.R a) S_idx.n) (endD Tryz.prog S_idx a)
def S_sum : SpecD where
  f := 39
  α := SA
  args a := [a.v 12]
  R a := [(12, .f a.c 3 .gro)]
  n := 12 + 1
  pre a := (∃ xs, Sli (Value.int .i64) 1 a.n a.o a.l a.k a.c xs) ∧ a.l ≤ 1000
  outs := [⟨NK, fun a b => ∀ xs, Sli (Value.int .i64) 1 a.n a.o a.l a.k a.c xs → b.n = sumC xs, fun _ b => tgI .i64 b.n, fun _ _ => [], fun _ _ => 12 + 1, fun _ _ => []⟩]
  pick _ _ := 0
  find l A := saK A 12 (lv l 0) fun a r => some (a, r)
def la_sum (a : SA) (xs : List Int) : LA where
  α := NS
  at_ e := ⟨[(3, tgI .i64 e.s), (6, a.v 12), (7, tgI .i64 a.l), (8, tgI .i64 e.k)], S_sum.R a, 12 + 1⟩
  J e := (0 ≤ e.k ∧ e.k ≤ a.l) ∧ e.s = sumC (xs.take e.k.toNat)
  μ e := (a.l - e.k).toNat
  ren _ := []
def G_sum (a : SA) (xs : List Int) : Prop := fnW Tryz.prog E0 cw0 [some (la_sum a xs)] S_sum.f (S_sum.args a) (mem (S_sum.R a) S_sum.n) (endD Tryz.prog S_sum a)
end
end Go.Proofs.YthcldogebnjohaaGreatDoor
end

/- Amounts: slices.Clone, slices.IndexFunc, sum are what is told of them. -/
section
set_option maxRecDepth 100000
namespace Go.Proofs.YthcldogebnjohaaGreatDoor
open Go.Ev
set_option linter.unusedSectionVars false
variable [Go.Ev.Frozen Tryz.prog]
theorem vc_clint (a : SA) : G_clint a = ((a.1 = Bool.true → ∃ (x0 : RW), (∀ (x1 : List Int), Sli (Value.int IntKind.i64) (1 : Nat) a.1 a.2 a.3 a.4 a.5 x1 → Sli (Value.int IntKind.i64) (1 : Nat) a.1 (0 : Nat) a.3 x0.1 x0.2
x1) ∧ (a.1 = Bool.true ∧ a.3 = (0 : Nat) ∧ x0.1 = (0 : Nat)) ∧ (FlatL x0.2 ∧ True) ∧ True) ∧ (a.1 = Bool.false → (a.1 = Bool.true → ((0 : Nat) ≤ (0 : Nat) → Bool.true = Bool.true ∧
Bool.true = Bool.true ∧ (0 : Nat) ≤ (0 : Nat) ∧ ∀ (x2 : Nat) (x3 : List Value), x2 = (0 : Nat) → x3 = lput [] (0 : Nat) [] → ∃ (x4 : RW), (∀ (x5 : List Int), Sli (Value.int
IntKind.i64) (1 : Nat) a.1 a.2 a.3 a.4 a.5 x5 → Sli (Value.int IntKind.i64) (1 : Nat) a.1 (0 : Nat) a.3 x4.1 x4.2 x5) ∧ (a.1 = Bool.false ∧ (0 : Nat) = (0 : Nat) ∧ a.3 = x2 ∧ x4.1
= (0 : Nat)) ∧ ((x4.1 = (0 : Nat) ∧ x3 = []) ∧ FlatL x4.2 ∧ x4.2 = x3) ∧ True) ∧ (¬(0 : Nat) ≤ (0 : Nat) → Few (0 : Nat) (8 : Nat) ∧ (0 : Nat) ≤ (0 : Nat) ∧ ∀ (x6 : Nat) (x7 : List
Value), x6 = (0 : Nat) → x7 = lwin [] (0 : Nat) (0 : Nat) ++ [] → ∃ (x8 : RW), (∀ (x9 : List Int), Sli (Value.int IntKind.i64) (1 : Nat) a.1 a.2 a.3 a.4 a.5 x9 → Sli (Value.int
IntKind.i64) (1 : Nat) a.1 (0 : Nat) a.3 x8.1 x8.2 x9) ∧ (a.1 = Bool.false ∧ (0 : Nat) = (0 : Nat) ∧ a.3 = x6 ∧ x8.1 = x6) ∧ (x8.1 = x6 ∧ FlatL x8.2 ∧ x8.2 = x7) ∧ True)) ∧ (a.1 =
Bool.false → a.2 + a.3 * (1 : Nat) ≤ List.length a.5 ∧ ∀ (x10 : List Value), x10 = lwin a.5 a.2 (a.3 * (1 : Nat)) → ((0 : Nat) + a.3 ≤ (0 : Nat) → Bool.true = Bool.true ∧ lall oneK
x10 = Bool.true ∧ (0 : Nat) + List.length x10 ≤ (0 : Nat) ∧ ∀ (x11 : Nat) (x12 : List Value), x11 = (0 : Nat) + a.3 → x12 = lput [] (0 : Nat) x10 → ∃ (x13 : RW), (∀ (x14 : List
Int), Sli (Value.int IntKind.i64) (1 : Nat) a.1 a.2 a.3 a.4 a.5 x14 → Sli (Value.int IntKind.i64) (1 : Nat) a.1 (0 : Nat) a.3 x13.1 x13.2 x14) ∧ (a.1 = Bool.false ∧ (0 : Nat) = (0
: Nat) ∧ a.3 = x11 ∧ x13.1 = (0 : Nat)) ∧ ((x13.1 = (0 : Nat) ∧ x12 = []) ∧ FlatL x13.2 ∧ x13.2 = x12) ∧ True) ∧ (¬(0 : Nat) + a.3 ≤ (0 : Nat) → Few ((0 : Nat) + a.3) (8 : Nat) ∧
(0 : Nat) ≤ (0 : Nat) ∧ ∀ (x15 : Nat) (x16 : List Value), x15 = (0 : Nat) + a.3 → x16 = lwin [] (0 : Nat) (0 : Nat) ++ x10 → ∃ (x17 : RW), (∀ (x18 : List Int), Sli (Value.int
IntKind.i64) (1 : Nat) a.1 a.2 a.3 a.4 a.5 x18 → Sli (Value.int IntKind.i64) (1 : Nat) a.1 (0 : Nat) a.3 x17.1 x17.2 x18) ∧ (a.1 = Bool.false ∧ (0 : Nat) = (0 : Nat) ∧ a.3 = x15 ∧
x17.1 = x15) ∧ (x17.1 = x15 ∧ FlatL x17.2 ∧ x17.2 = x16) ∧ True)))) := by kernel_rfl
theorem vc_idx (a : SA) (xs : List Int) : G_idx a xs = (∀ (x0 : Int), x0 = (↑a.3 : Int) → ∃ (x1 : NK), (((0 : Int) ≤ x1.1 ∧ x1.1 ≤ (↑a.3 : Int)) ∧ inRt (List.take (Int.toNat x1.1) xs)) ∧ (((a.1 = a.1 ∧ a.2 = a.2 ∧ a.3 = a.3 ∧ a.4 = a.4)
∧ (True ∧ True) ∧ (↑a.3 : Int) = x0 ∧ x1.1 = (0 : Int) ∧ True) ∧ ((True ∧ FlatL a.5 ∧ a.5 = a.5) ∧ True) ∧ True) ∧ ∀ (x2 : NK), ((0 : Int) ≤ x2.1 ∧ x2.1 ≤ (↑a.3 : Int)) ∧ inRt
(List.take (Int.toNat x2.1) xs) → (x2.1 < (↑a.3 : Int) → ((0 : Int) ≤ x2.1 ∧ x2.1 < (↑a.3 : Int)) ∧ ∀ (x3 : Nat), x3 = a.2 + Int.toNat x2.1 * (1 : Nat) → ∃ (x4 : Int), Rd a.5
(Nat.add x3 (0 : Nat)) (Value.int IntKind.i64 x4) ∧ ((0 : Int) ≤ x4 → (x4 ≤ (1125899906842624 : Int) → ∀ (x5 : Int), x5 = IntKind.wrap IntKind.i64 (x2.1 + (1 : Int)) → ∃ (x6 : NK),
(((0 : Int) ≤ x6.1 ∧ x6.1 ≤ (↑a.3 : Int)) ∧ inRt (List.take (Int.toNat x6.1) xs)) ∧ Int.toNat ((↑a.3 : Int) - x6.1) < Int.toNat ((↑a.3 : Int) - x2.1) ∧ ((a.1 = a.1 ∧ a.2 = a.2 ∧
a.3 = a.3 ∧ a.4 = a.4) ∧ (True ∧ True) ∧ (↑a.3 : Int) = (↑a.3 : Int) ∧ x6.1 = x5 ∧ True) ∧ ((True ∧ FlatL a.5 ∧ a.5 = a.5) ∧ True) ∧ True) ∧ (¬x4 ≤ (1125899906842624 : Int) → ∃ (x7
: NK), ((0 : Int) ≤ x7.1 ∧ ∀ (x8 : List Int), Sli (Value.int IntKind.i64) (1 : Nat) a.1 a.2 a.3 a.4 a.5 x8 → ¬inRt x8) ∧ x7.1 = x2.1 ∧ True)) ∧ (¬(0 : Int) ≤ x4 → ∃ (x9 : NK), ((0
: Int) ≤ x9.1 ∧ ∀ (x10 : List Int), Sli (Value.int IntKind.i64) (1 : Nat) a.1 a.2 a.3 a.4 a.5 x10 → ¬inRt x10) ∧ x9.1 = x2.1 ∧ True)) ∧ (¬x2.1 < (↑a.3 : Int) → ∃ (x11 : Unit), (∀
(x12 : List Int), Sli (Value.int IntKind.i64) (1 : Nat) a.1 a.2 a.3 a.4 a.5 x12 → inRt x12) ∧ (-1 : Int) = (-1 : Int) ∧ True)) := by kernel_rfl
theorem vc_sum (a : SA) (xs : List Int) : G_sum a xs = (∀ (x0 : Int), x0 = (↑a.3 : Int) → ∃ (x1 : NS), (((0 : Int) ≤ x1.1 ∧ x1.1 ≤ (↑a.3 : Int)) ∧ x1.2 = sumC (List.take (Int.toNat x1.1) xs)) ∧ ((x1.2 = (0 : Int) ∧ (a.1 = a.1 ∧ a.2 =
a.2 ∧ a.3 = a.3 ∧ a.4 = a.4) ∧ (↑a.3 : Int) = x0 ∧ x1.1 = (0 : Int) ∧ True) ∧ ((True ∧ FlatL a.5 ∧ a.5 = a.5) ∧ True) ∧ True) ∧ ∀ (x2 : NS), ((0 : Int) ≤ x2.1 ∧ x2.1 ≤ (↑a.3 :
Int)) ∧ x2.2 = sumC (List.take (Int.toNat x2.1) xs) → (x2.1 < (↑a.3 : Int) → ((0 : Int) ≤ x2.1 ∧ x2.1 < (↑a.3 : Int)) ∧ ∀ (x3 : Nat), x3 = a.2 + Int.toNat x2.1 * (1 : Nat) → ∃ (x4
: Int), Rd a.5 (Nat.add x3 (0 : Nat)) (Value.int IntKind.i64 x4) ∧ ∀ (x5 : Int), x5 = IntKind.wrap IntKind.i64 (x2.2 + x4) → ∀ (x6 : Int), x6 = IntKind.wrap IntKind.i64 (x2.1 + (1
: Int)) → ∃ (x7 : NS), (((0 : Int) ≤ x7.1 ∧ x7.1 ≤ (↑a.3 : Int)) ∧ x7.2 = sumC (List.take (Int.toNat x7.1) xs)) ∧ Int.toNat ((↑a.3 : Int) - x7.1) < Int.toNat ((↑a.3 : Int) - x2.1)
∧ (x7.2 = x5 ∧ (a.1 = a.1 ∧ a.2 = a.2 ∧ a.3 = a.3 ∧ a.4 = a.4) ∧ (↑a.3 : Int) = (↑a.3 : Int) ∧ x7.1 = x6 ∧ True) ∧ ((True ∧ FlatL a.5 ∧ a.5 = a.5) ∧ True) ∧ True) ∧ (¬x2.1 < (↑a.3
: Int) → ∃ (x8 : NK), (∀ (x9 : List Int), Sli (Value.int IntKind.i64) (1 : Nat) a.1 a.2 a.3 a.4 a.5 x9 → x8.1 = sumC x9) ∧ x8.1 = x2.2 ∧ True)) := by kernel_rfl
theorem g_clint (a : SA) (hp : ∃ xs, Sli (Value.int .i64) 1 a.n a.o a.l a.k a.c xs) (hl : a.l ≤ 1000) : G_clint a := by
  obtain ⟨ys, hy⟩ := hp
  have uniq : a.n = true → a.l = 0 ∧ ∀ zs, Sli (Value.int .i64) 1 a.n a.o a.l a.k a.c zs → Sli (Value.int .i64) 1 true 0 a.l 0 [] zs := fun hn => ⟨(hy.nil hn).1, fun zs hz => by
    have hz0 := hz.nilE hn
    subst hz0
    rw [(hy.nil hn).1]; exact .none⟩
  rw [vc_clint]
  refine ⟨fun hn => ⟨⟨0, []⟩, fun xs hx => by (rw [hn]; exact (uniq hn).2 xs hx), ⟨hn, (uniq hn).1, rfl⟩, ⟨flatL_nil, trivial⟩, trivial⟩, fun hn => ⟨fun hc => absurd (hc.symm.trans hn) (by decide), fun _ => ⟨by have := hy.fit hn; omega, fun xs hxs => ?_⟩⟩⟩
  have hw : HW (Value.int .i64) xs ys := by rw [hxs]; exact hy.win hn
  have hlen : ys.length = a.l * 1 := hy.len
  have hxl : xs.length = a.l * 1 := hw.len.trans hlen
  have fin : ∀ (c : List Value) (k : Nat), c = xs → a.l ≤ k → ∀ zs, Sli (Value.int .i64) 1 a.n a.o a.l a.k a.c zs → Sli (Value.int .i64) 1 a.n 0 a.l k c zs := fun c k hc hk zs hz => by
    subst hc
    rw [hn]
    have hw2 : HW (Value.int .i64) c zs := by rw [hxs]; exact hz.win hn
    exact .row hw2 hz.len hk hw2.flat
  refine ⟨fun h0 => ⟨rfl, hw.oneK, by omega, fun n c hn' hc => ?_⟩, fun h0 => ⟨by unfold Few; omega, by omega, fun n c hn' hc => ?_⟩⟩
  · have hx0 : xs = [] := List.eq_nil_of_length_eq_zero (by omega)
    have hc0 : c = [] := by rw [hc, hx0]; rfl
    exact ⟨⟨0, c⟩, fin c 0 (by rw [hc0, hx0]) (by omega), ⟨hn, rfl, by omega, rfl⟩, ⟨⟨rfl, hc0⟩, by rw [hc0]; exact flatL_nil, rfl⟩, trivial⟩
  · have hcx : c = xs := by rw [hc]; rfl
    exact ⟨⟨n, c⟩, fin c n hcx (by omega), ⟨hn, rfl, by omega, rfl⟩, ⟨rfl, by rw [hcx]; exact hw.flat, rfl⟩, trivial⟩
theorem s_clint : SpecOK Tryz.prog S_clint.spec := fun a => specD_at (an := []) envOK cw0_ok fun hp => g_clint a hp.1 hp.2
theorem take_next {xs : List Int} {k : Int} (h0 : 0 ≤ k) (h1 : k < (xs.length : Int)) : xs.take (k + 1).toNat = xs.take k.toNat ++ [xs.getD k.toNat 0] := by
  have h2 : k.toNat < xs.length := by omega
  rw [show (k + 1).toNat = k.toNat + 1 by omega, List.take_add_one, List.getElem?_eq_getElem h2]
  simp [List.getD, h2]
theorem rd_at {n : Bool} {o l kk : Nat} {c : List Value} {xs : List Int} (h : Sli (Value.int .i64) 1 n o l kk c xs) {k : Int} {x : Nat} (h0 : 0 ≤ k) (h1 : k < (l : Int)) (e : x = o + k.toNat * 1) : Rd c (Nat.add x 0) (.int .i64 (xs.getD k.toNat 0)) := by
  have hl := h.len
  have h2 : k.toNat < xs.length := by omega
  have := h.at_ k.toNat (xs.getD k.toNat 0) (by simp [List.getD, h2])
  rw [show Nat.add x 0 = o + k.toNat by show x + 0 = _; omega]
  exact this
theorem wrap_k {k : Int} {l : Nat} (h0 : 0 ≤ k) (h1 : k < (l : Int)) (hl : l ≤ 1000) : IntKind.wrap .i64 (k + 1) = k + 1 := by rw [wrap_i64]; omega
theorem g_idx (a : SA) (xs : List Int) (h : Sli (Value.int .i64) 1 a.n a.o a.l a.k a.c xs) (hl : a.l ≤ 1000) : G_idx a xs := by
  have hf := h.flat
  have hlen : xs.length = a.l * 1 := h.len
  rw [vc_idx]
  intro x0 e0
  refine ⟨⟨0⟩, ⟨⟨Int.le_refl 0, Int.natCast_nonneg _⟩, fun _ hx => absurd hx (by simp)⟩, by subst e0; (repeat' first | with_reducible apply And.intro | exact trivial | exact rfl | assumption), ?_⟩
  rintro ⟨k⟩ ⟨⟨h0, h1⟩, hr⟩
  dsimp only at h0 h1 hr
  refine ⟨fun hlt => ⟨⟨h0, hlt⟩, fun x3 e3 => ⟨xs.getD k.toNat 0, rd_at h h0 hlt e3, fun q0 => ⟨fun q1 x5 e5 => ?_, fun q1 => ?_⟩, fun q0 => ?_⟩⟩, fun hge => ?_⟩
  · have e5 : x5 = k + 1 := e5.trans (wrap_k h0 hlt hl)
    refine ⟨⟨k + 1⟩, ⟨⟨by show 0 ≤ k + 1; omega, by show k + 1 ≤ (a.l : Int); have : k < (a.l : Int) := hlt; omega⟩, ?_⟩, by show ((a.l : Int) - (k + 1)).toNat < ((a.l : Int) - k).toNat; have : k < (a.l : Int) := hlt; omega, by subst e5; (repeat' first | with_reducible apply And.intro | exact trivial | exact rfl | assumption)⟩
    show inRt (xs.take (k + 1).toNat)
    rw [take_next h0 (by have : k < (a.l : Int) := hlt; omega)]
    intro x hx
    rcases List.mem_append.1 hx with hx | hx
    · exact hr x hx
    · rw [List.mem_singleton.1 hx]; exact ⟨q0, q1⟩
  · exact ⟨⟨k⟩, ⟨h0, fun ys hy hall => q1 (hall _ (by rw [Sli.uniqI hy h]; simp [List.getD, show k.toNat < xs.length by have : k < (a.l : Int) := hlt; omega])).2⟩, rfl, trivial⟩
  · exact ⟨⟨k⟩, ⟨h0, fun ys hy hall => q0 (hall _ (by rw [Sli.uniqI hy h]; simp [List.getD, show k.toNat < xs.length by have : k < (a.l : Int) := hlt; omega])).1⟩, rfl, trivial⟩
  · refine ⟨(), fun ys hy => ?_, rfl, trivial⟩
    rw [Sli.uniqI hy h]
    have : k.toNat = xs.length := by have : ¬ k < (a.l : Int) := hge; have : k ≤ (a.l : Int) := h1; omega
    rwa [this, List.take_length] at hr
theorem s_idx : SpecOK Tryz.prog S_idx.spec := fun a K ⟨⟨xs, h⟩, hl⟩ hq => specD_at (an := [some (la_idx a xs)]) envOK (cwX_ok (fun _ h => h) 3) (fun _ => g_idx a xs h hl) K ⟨⟨xs, h⟩, hl⟩ hq
theorem sumC_snoc (l : List Int) (x : Int) : sumC (l ++ [x]) = IntKind.wrap .i64 (sumC l + x) := by simp [sumC]
theorem g_sum (a : SA) (xs : List Int) (h : Sli (Value.int .i64) 1 a.n a.o a.l a.k a.c xs) (hl : a.l ≤ 1000) : G_sum a xs := by
  have hf := h.flat
  have hlen : xs.length = a.l * 1 := h.len
  rw [vc_sum]
  intro x0 e0
  refine ⟨⟨0, 0⟩, ⟨⟨Int.le_refl 0, Int.natCast_nonneg _⟩, rfl⟩, by subst e0; (repeat' first | with_reducible apply And.intro | exact trivial | exact rfl | assumption), ?_⟩
  rintro ⟨k, s⟩ ⟨⟨h0, h1⟩, hr⟩
  dsimp only at h0 h1 hr
  refine ⟨fun hlt => ⟨⟨h0, hlt⟩, fun x3 e3 => ⟨xs.getD k.toNat 0, rd_at h h0 hlt e3, fun x5 e5 x6 e6 => ?_⟩⟩, fun hge => ?_⟩
  · have e6 : x6 = k + 1 := e6.trans (wrap_k h0 hlt hl)
    refine ⟨⟨k + 1, x5⟩, ⟨⟨by show 0 ≤ k + 1; omega, by show k + 1 ≤ (a.l : Int); have : k < (a.l : Int) := hlt; omega⟩, ?_⟩, by show ((a.l : Int) - (k + 1)).toNat < ((a.l : Int) - k).toNat; have : k < (a.l : Int) := hlt; omega, by subst e6; (repeat' first | with_reducible apply And.intro | exact trivial | exact rfl | assumption)⟩
    show x5 = sumC (xs.take (k + 1).toNat)
    rw [take_next h0 (by have : k < (a.l : Int) := hlt; omega), sumC_snoc, ← hr]
    exact e5
  · refine ⟨⟨s⟩, fun ys hy => ?_, rfl, trivial⟩
    rw [Sli.uniqI hy h]
    have : k.toNat = xs.length := by have : ¬ k < (a.l : Int) := hge; have : k ≤ (a.l : Int) := h1; omega
    rw [this, List.take_length] at hr
    exact hr
theorem s_sum : SpecOK Tryz.prog S_sum.spec := fun a K ⟨⟨xs, h⟩, hl⟩ hq => specD_at (an := [some (la_sum a xs)]) envOK cw0_ok (fun _ => g_sum a xs h hl) K ⟨⟨xs, h⟩, hl⟩ hq
end Go.Proofs.YthcldogebnjohaaGreatDoor
end

/- A game's rules, their code left out: Seats, seat, Check (what is to be shown). -/
section
set_option maxRecDepth 100000
namespace Go.Proofs.YthcldogebnjohaaGreatDoor
open Go.Ev
-- keep rlF PH rollZ rollOK inAll Go.Ev.Sli Go.Ev.HV
structure RlA where
  st : SA
  ce : SA
structure KI where
  k : Int
structure RpA where
  g : RlA
  p : PA
structure RsA where
  g : RlA
  n : Int
def inAll (cs xs : List Int) (n : Nat) : Prop := ∀ i, i < n → cs.getD (2 * i) 0 ≤ xs.getD i 0 ∧ xs.getD i 0 ≤ cs.getD (2 * i + 1) 0
def rollZ (p : PA) : Prop := p.r0 = 0 ∧ p.r1 = 0 ∧ p.r2 = 0 ∧ p.r3 = 0 ∧ p.r4 = 0
def rollOK (cells seats : Nat) (p : PA) (x : PX) : Prop := (0 ≤ p.r0 ∧ p.r0 < cells) ∧ (2 ≤ p.r1 ∧ p.r1 ≤ 1000) ∧ (0 ≤ p.r2 ∧ p.r2 < seats) ∧ (0 ≤ p.r3 ∧ p.r3 < seats) ∧ x.gone.getD p.r3.toNat false = false
set_option linter.unusedSectionVars false
variable [Go.Ev.Frozen Tryz.prog]
noncomputable section
abbrev unk : Value := .iface UNK .nilIface
def paK {β : Type} (A : AW) (i : Nat) (l : List Value) (k : PA → List (Nat × Nat) → Option β) : Option β := saK A i (lv l 0) fun s1 q1 => saK A (i + 1) (lv l 1) fun s2 q2 => saK A (i + 2) (lv l 2) fun s3 q3 => wI (lv l 3) fun r0 => wI (lv l 4) fun r1 => wI (lv l 5) fun r2 => wI (lv l 6) fun r3 => wI (lv l 7) fun r4 => k ⟨s1, s2, s3, r0, r1, r2, r3, r4⟩ (q1 ++ (q2 ++ q3))
def rlR (a : RlA) (i : Nat) : List (Nat × PO) :=
  (i, .p (.row [unk, a.st.v (i + 1), unk, unk, unk, unk, unk, unk, unk, unk, unk, unk, a.ce.v (i + 2)] 107 .gro)) ::
  (i + 1, .f a.st.c 3 .gro) :: (i + 2, .f a.ce.c 127 .gro) :: []
def rlK {β : Type} (A : AW) (i : Nat) (v : Value) (k : RlA → List (Nat × Nat) → Option β) : Option β :=
  ptK v fun b => rowK A b fun r => saK A (i + 1) (lv r 1) fun s q1 => saK A (i + 2) (lv r 12) fun c q2 => k ⟨s, c⟩ ((i, b) :: (q1 ++ q2))
def rlF (a : RlA) : Prop := FlatL a.st.c ∧ FlatL a.ce.c
def S_seatsR : SpecD where
  f := 34
  α := RlA
  args _ := [.pointer (some ⟨12, 0, none⟩)]
  R a := rlR a 12
  n := 12 + 3
  pre a := rlF a
  outs := [⟨Unit, fun _ _ => True, fun a _ => tgI .i64 a.st.l, fun _ _ => [], fun _ _ => 12 + 3, fun _ _ => []⟩]
  pick _ _ := 0
  find l A := rlK A 12 (lv l 0) fun g q => some (g, q)
def G_seatsR (a : RlA) : Prop := fnW Tryz.prog E0 cw0 [] S_seatsR.f (S_seatsR.args a) (mem (S_seatsR.R a) S_seatsR.n) (endD Tryz.prog S_seatsR a)
def S_seatR : SpecD where
  f := 75
  α := RsA
  args a := [.pointer (some ⟨12, 0, none⟩), tgI .i64 a.n]
  R a := rlR a.g 12
  n := 12 + 3
  pre a := rlF a.g
  outs := [⟨Unit, fun a _ => 0 ≤ a.n ∧ a.n < a.g.st.l, fun _ _ => .bool true, fun _ _ => [], fun _ _ => 12 + 3, fun _ _ => []⟩,
    ⟨Unit, fun a _ => ¬ (0 ≤ a.n ∧ a.n < a.g.st.l), fun _ _ => .bool false, fun _ _ => [], fun _ _ => 12 + 3, fun _ _ => []⟩]
  pick v _ := match v with
    | .bool b => Bool.rec 1 0 b
    | _ => 1
  find l A := rlK A 12 (lv l 0) fun g q => wI (lv l 1) fun n => some (⟨g, n⟩, q)
def G_seatR (a : RsA) : Prop := fnW Tryz.prog E0 (cwX (fun c => cwD Tryz.prog S_seatsR c) 3) [] S_seatR.f (S_seatR.args a) (mem (S_seatR.R a) S_seatR.n) (endD Tryz.prog S_seatR a)
abbrev lenOK (a : RpA) : Prop := a.p.s1.l = a.g.ce.l ∧ a.p.s2.l = a.g.st.l ∧ a.p.s3.l = a.g.st.l
def S_checkR : SpecD where
  f := 32
  α := RpA
  args a := [.pointer (some ⟨12, 0, none⟩), a.p.v (12 + 3)]
  R a := rlR a.g 12 ++ a.p.R (12 + 3) 41
  n := 12 + 6
  pre a := rlF a.g ∧ (∃ x, PH a.p x) ∧ (∃ cs, Sli (Value.int .i32) 2 a.g.ce.n a.g.ce.o a.g.ce.l a.g.ce.k a.g.ce.c cs) ∧ a.p.s1.l ≤ 1000
  outs := [⟨Unit, fun a _ => lenOK a ∧ ∀ x cs, PH a.p x → Sli (Value.int .i32) 2 a.g.ce.n a.g.ce.o a.g.ce.l a.g.ce.k a.g.ce.c cs → inAll cs x.vars a.p.s1.l ∧ (rollZ a.p ∨ rollOK a.g.ce.l a.g.st.l a.p x), fun _ _ => .int .i64 0, fun _ _ => [], fun _ _ => 12 + 6, fun _ _ => []⟩,
    ⟨Unit, fun a _ => ¬ lenOK a, fun _ _ => .int .i64 3, fun _ _ => [], fun _ _ => 12 + 6, fun _ _ => []⟩,
    ⟨Unit, fun a _ => lenOK a ∧ ∀ x cs, PH a.p x → Sli (Value.int .i32) 2 a.g.ce.n a.g.ce.o a.g.ce.l a.g.ce.k a.g.ce.c cs → ¬ (inAll cs x.vars a.p.s1.l ∧ (rollZ a.p ∨ rollOK a.g.ce.l a.g.st.l a.p x)), fun _ _ => .int .i64 2, fun _ _ => [], fun _ _ => 12 + 6, fun _ _ => []⟩]
  pick v _ := match v with
    | .int _ z => Int.rec (fun n => Bool.rec (Bool.rec 0 2 (Nat.beq n 2)) 1 (Nat.beq n 3)) (fun _ => 0) z
    | _ => 0
  find l A := rlK A 12 (lv l 0) fun g q => paK A (12 + 3) (agv (lv l 1)) fun p r => some (⟨g, p⟩, q ++ r)
def la_checkR (a : RpA) (x : PX) (cs : List Int) : LA where
  α := KI
  at_ e := ⟨[(0, .pointer (some ⟨12, 0, none⟩)), (1, a.p.v (12 + 3)), (3, .pointer (some ⟨12 + 6, 0, none⟩)), (38, a.p.s1.v (12 + 3)), (39, tgI .i64 a.p.s1.l), (40, tgI .i64 e.k)],
    (12 + 6, .p (.row (a.p.s1.v (12 + 3) :: a.p.s2.v (12 + 4) :: a.p.s3.v (12 + 5) :: rolls a.p) 32 .own)) :: (rlR a.g 12 ++ a.p.R (12 + 3) 41), 12 + 7⟩
  J e := (0 ≤ e.k ∧ e.k ≤ a.p.s1.l) ∧ lenOK a ∧ inAll cs x.vars e.k.toNat
  μ e := (a.p.s1.l - e.k).toNat
  ren s := renP (12 + 6) (tv s 3)
def G_checkR (a : RpA) (x : PX) (cs : List Int) : Prop := fnW Tryz.prog E0 (cwX (fun c => cwD Tryz.prog S_seatsR (cwD Tryz.prog S_seatR c)) 3) [some (la_checkR a x cs)] S_checkR.f (S_checkR.args a) (mem (S_checkR.R a) S_checkR.n) (endD Tryz.prog S_checkR a)
end
end Go.Proofs.YthcldogebnjohaaGreatDoor
end
